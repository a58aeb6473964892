/-
  Walks of the functions, printed by a program out of the code and the loops' relations.
-/
import Derived.Test.YtciljdhihnnfiaaWkG
import Derived.Test.YtciljdhihnnfiaaProg
import Derived.KernelRfl
import Derived.Test.YtciljdhihnnfiaaC6
namespace Go.Proofs.Ytciljdhihnnfiaa
open Go.Wk Go.RowKit
set_option linter.unusedVariables false
set_option linter.unusedSimpArgs false
theorem bld67_1_2_3_4 (d1 : Option Addr) (l1 : Nat) (c1 : Nat) (d2 : Option Addr) (l2 : Nat) (c2 : Nat) (d3 : Option Addr) (l3 : Nat) (c3 : Nat) (d4 : Option Addr) (l4 : Nat) (c4 : Nat) (w : World) : (Instr.build 67 [(1, (.slice d1 l1 c1)), (2, (.slice d2 l2 c2)), (3, (.slice d3 l3 c3)), (4, (.slice d4 l4 c4))].toArray).run Try.prog w = .ok (.agg [.slice none 0 0, (.slice d1 l1 c1), (.slice d2 l2 c2), (.slice d3 l3 c3), (.slice d4 l4 c4)].toArray) w := by kernel_rfl
theorem sz23 : SzOf Try.prog 23 1 := Try.sizeOf23

theorem owNamed {α : Type} {E : TypeId} {enc : α → List Value} {sz lo hi : Nat} {w : World} {ad : Option Addr} {c : Nat} {l : List α} (h : Ow E enc sz lo hi w ad c l) : ∃ lo' hi', lo' = lo ∧ hi' = hi ∧ Ow E enc sz lo' hi' w ad c l := ⟨lo, hi, rfl, rfl, h⟩
theorem rsep_mk {b bp br bc l2 h2 : Nat} (e1 : bp ≠ br) (e2 : bp ≠ bc) (e3 : br ≠ bc) (b1 : bp < b) (b2 : br < b) (b3 : bc < b) (s1 : h2 ≤ bp ∨ bp + 1 ≤ l2) (s2 : h2 ≤ br ∨ br + 1 ≤ l2) (s3 : h2 ≤ bc ∨ bc + 1 ≤ l2) :
    RSep b none (some ⟨bp, 0, none⟩) (some ⟨br, 0, none⟩) (some ⟨bc, 0, none⟩) l2 h2 := by
  refine ⟨.inr (Nat.zero_le _), .inr b1, .inr b2, .inr b3, .inl (Nat.zero_le _), .inl (Nat.zero_le _), .inl (Nat.zero_le _), ?_, ?_, ?_, .inr (.inl (Nat.zero_le _)), ?_, ?_, ?_⟩ <;> simp only [blk_some, hi1_some] <;> omega
theorem rsep_h {b bp br bc l2 h2 z2 : Nat} {ah : Option Addr} (h : RSep b none (some ⟨bp, 0, none⟩) (some ⟨br, 0, none⟩) (some ⟨bc, 0, none⟩) l2 h2) (hz : (blk ah = 0 ∧ hi1 ah = 0) ∨ z2 ≤ blk ah) (b0 : b < z2) (b1 : bp < b) (b2 : br < b) (b3 : bc < b) (b4 : h2 ≤ b) :
    RSep b ah (some ⟨bp, 0, none⟩) (some ⟨br, 0, none⟩) (some ⟨bc, 0, none⟩) l2 h2 := by
  refine ⟨?_, h.bp, h.br, h.bc, ?_, ?_, ?_, h.pr, h.pc, h.rc, ?_, h.sp, h.sr, h.sc⟩ <;> (try simp only [blk_some, hi1_some]) <;> omega
theorem ask_step {l : List Lk} {k : Nat} (hk : (k : Int) < l.length) : askAll (l.take (k + 1)) = upd (askAll (l.take k)) (el l (k : Int)).rs true := by
  rw [take_succ_el hk, ask_snoc]; rfl
def PosTo (S : IS) (W : Int → Int) (k : Nat) (P : List Int) : Prop := P.length = S.rs.length ∧ ∀ i : Int, 0 ≤ i → i < S.rs.length → el P i = if i < k ∧ 0 ≤ W i then W i else (el S.rs i).po
theorem PosTo.start (S : IS) (W : Int → Int) : PosTo S W 0 (S.rs.map Rs.po) := ⟨by simp, fun i h0 h1 => by rw [el_map h0 h1, if_neg (by omega)]⟩
theorem PosTo.put {S : IS} {W : Int → Int} {k : Nat} {P : List Int} {v : Int} (h : PosTo S W k P) (hk : (k : Int) < S.rs.length) (h0 : 0 ≤ W k) (hv : v = W k) : PosTo S W (k + 1) (P.set (k : Int).toNat v) := by
  refine ⟨by rw [List.length_set]; exact h.1, fun i i0 i1 => ?_⟩
  have hl := h.1
  by_cases e : i = k
  · subst e; rw [el_set_same i0 (by omega), if_pos ⟨by omega, h0⟩, hv]
  · rw [el_set_ne (by omega) i0 e, h.2 i i0 i1]
    by_cases q : i < k
    · simp only [q, true_and, show i < ((k + 1 : Nat) : Int) by omega]
    · rw [if_neg (by omega), if_neg (by omega)]
theorem PosTo.skip {S : IS} {W : Int → Int} {k : Nat} {P : List Int} (h : PosTo S W k P) (h0 : W k = -1) : PosTo S W (k + 1) P := by
  refine ⟨h.1, fun i i0 i1 => ?_⟩
  rw [h.2 i i0 i1]
  by_cases e : i = k
  · subst e; rw [if_neg (by omega), if_neg (by omega)]
  · by_cases q : i < k
    · simp only [q, true_and, show i < ((k + 1 : Nat) : Int) by omega]
    · rw [if_neg (by omega), if_neg (by omega)]
theorem PosTo.done {S : IS} {t : Int} {l : List Lk} {k : Nat} {P : List Int} (h : PosTo S (grW S l) k P) (hk : ¬ (k : Int) < S.rs.length) : (grantR S t l).map Rs.po = P := by
  refine ext_el (by rw [List.length_map, grantR_len, h.1]) fun i h0 h1 => ?_
  rw [List.length_map, grantR_len] at h1
  rw [el_map h0 (by rw [grantR_len]; exact h1), grantR_el h0 h1, h.2 i h0 h1]
  unfold grRs
  simp only [show i < (k : Int) by omega, true_and]
def HolTo (S : IS) (t : Int) (l : List Lk) (H : List Int) : Prop := H.length = S.rs.length ∧ ∀ i : Int, 0 ≤ i → i < S.rs.length → el H i = if l.any (fun k => decide (k.rs = i)) = true then t else (el S.rs i).ho
theorem HolTo.start (S : IS) (t : Int) : HolTo S t [] (S.rs.map Rs.ho) := ⟨by simp, fun i h0 h1 => by rw [el_map h0 h1]; simp⟩
theorem HolTo.add {S : IS} {t : Int} {l : List Lk} {k : Lk} {H : List Int} (h : HolTo S t l H) (h0 : 0 ≤ k.rs) (h1 : k.rs < S.rs.length) : HolTo S t (l ++ [k]) (H.set k.rs.toNat t) := by
  refine ⟨by rw [List.length_set]; exact h.1, fun i i0 i1 => ?_⟩
  have hl := h.1
  by_cases e : i = k.rs
  · subst e; rw [el_set_same i0 (by omega)]; simp
  · have e' : ¬ k.rs = i := fun q => e q.symm
    rw [el_set_ne h0 i0 e, h.2 i i0 i1]; simp [e']
theorem HolTo.done {S : IS} {t : Int} {l : List Lk} {H : List Int} (h : HolTo S t l H) : (grantR S t l).map Rs.ho = H := by
  refine ext_el (by rw [List.length_map, grantR_len, h.1]) fun i h0 h1 => ?_
  rw [List.length_map, grantR_len] at h1
  rw [el_map h0 (by rw [grantR_len]; exact h1), grantR_el h0 h1, h.2 i h0 h1]
  rfl
theorem grantR_re {S : IS} {t : Int} {l : List Lk} : (grantR S t l).map Rs.re = S.rs.map Rs.re := by
  refine ext_el (by simp [grantR_len]) fun i h0 h1 => ?_
  rw [List.length_map, grantR_len] at h1
  rw [el_map h0 (by rw [grantR_len]; exact h1), grantR_el h0 h1, el_map h0 h1]; rfl
theorem grantR_cl {S : IS} {t : Int} {l : List Lk} : (grantR S t l).map Rs.cl = S.rs.map Rs.cl := by
  refine ext_el (by simp [grantR_len]) fun i h0 h1 => ?_
  rw [List.length_map, grantR_len] at h1
  rw [el_map h0 (by rw [grantR_len]; exact h1), grantR_el h0 h1, el_map h0 h1]; rfl
theorem rep_snoc {k : Nat} {v : Int} : List.replicate k v ++ [v] = List.replicate (k + 1) v := by rw [List.replicate_succ']
theorem map_init {n : Nat} {fl : List Fk} {β : Type} {g : Rs → β} : (initS n fl).rs.map g = List.replicate n (g ⟨-1, 0, 0, false⟩) := by simp [initS]

set_option maxHeartbeats 2000000 in
set_option maxRecDepth 100000 in
theorem rlk_New_ok (n : Int) (fl : List Fk) (af : Option Addr) (cf la ha : Nat) (w : World) (hF : Sl encFk 3 la ha w af fl) (hcf : fl.length ≤ cf) (hn : (fl.length : Int) ≤ 9223372036854775807) : Cal Try.prog 11 [.int .i64 n, .slice af fl.length cf] w (fun v w' => ∃ p e, v = .tuple #[.pointer p, .int .i64 e] ∧ e = newE n fl ∧ (e ≠ 0 → p = none) ∧ (e = 0 → ∃ b, p = some ⟨b, 0, none⟩ ∧ Rlk w.heap.size w'.heap.size b w' (initS n.toNat fl)) ∧ Ext w w') := by
  replace hF := Sl.full (fun _ => by simp [encFk]) hF
  have hE : Out 0 0 w w := Out.refl _ _ w
  refine enter Try.func11 rfl Try.ntmps11 rfl ?_
  refine wp_seq ?_
  refine rg ?_
  refine st (asP rfl) ?_
  refine st (asI rfl) ?_
  refine rg_end ?_
  refine n_then ?_
  refine wp_seq ?_
  refine cut (γ := Unit) [12, 13, 14, 15, 16, 17] (fun _ => [(17, .bool (decide (¬ (1 ≤ n ∧ n ≤ 144))))]) (fun _ w_ => Ext w w_ ∧ True) ?_ ?_
  ·
    have hcut := Out.refl 0 0 w
    refine rg ?_
    refine st (mvI rfl) ?_
    refine st (y_lss rfl rfl) ?_
    refine st (mvB rfl) ?_
    refine gspL 14 rfl (fun hg1 => ?_) (fun hg1 => ?_)
    ·
      have hg1n := hg1; try simp only [decide_eq_true_eq, decide_eq_false_iff_not, Bool.not_eq_true', Bool.not_eq_false', Bool.and_eq_true, Bool.or_eq_true, Bool.or_eq_false_iff, Bool.cond_true_right, Bool.cond_false_right, Bool.cond_true_left, Bool.cond_false_left, ne_eq, Decidable.not_not, bne_iff_ne, beq_iff_eq, beq_eq_false_iff_ne, Bool.not_true, Bool.not_false] at hg1n
      refine sts rfl rfl hg1 ?_
      refine sts rfl rfl hg1 ?_
      refine st (y_pickT rfl hg1 (v := .bool _) rfl) ?_
      refine rg_end ?_
      exact n_then ⟨(), _, rfl, same_lk rfl (same_rfl), ⟨vb (by simp only [decide_eq_true_eq, decide_eq_false_iff_not, Bool.not_eq_true', Bool.not_eq_eq_eq_not, Bool.not_true, Bool.false_eq_true, false_iff, true_iff, iff_true, iff_false]; omega), trivial⟩, ⟨hcut, trivial⟩⟩
    ·
      have hg1n := hg1; try simp only [decide_eq_true_eq, decide_eq_false_iff_not, Bool.not_eq_true', Bool.not_eq_false', Bool.and_eq_true, Bool.or_eq_true, Bool.or_eq_false_iff, Bool.cond_true_right, Bool.cond_false_right, Bool.cond_true_left, Bool.cond_false_left, ne_eq, Decidable.not_not, bne_iff_ne, beq_iff_eq, beq_eq_false_iff_ne, Bool.not_true, Bool.not_false] at hg1n
      refine stg rfl rfl hg1 (mvI rfl) ?_
      refine stg rfl rfl hg1 (y_gtr rfl rfl) ?_
      refine st (y_pickF rfl hg1 (v := .bool _) rfl) ?_
      refine rg_end ?_
      exact n_then ⟨(), _, rfl, same_lk rfl (same_rfl), ⟨vb (by simp only [decide_eq_true_eq, decide_eq_false_iff_not, Bool.not_eq_true', Bool.not_eq_eq_eq_not, Bool.not_true, Bool.false_eq_true, false_iff, true_iff, iff_true, iff_false]; omega), trivial⟩, ⟨hcut, trivial⟩⟩
  ·
    rintro _ hav_ w2 ⟨ho3, _⟩
    have hz4 := ho3.size
    replace hF := hF.ext ho3
    replace hE := hE.step ho3 (.inl (Nat.le_refl _))
    refine cnd rfl (fun hc0 => ?_) (fun hc0 => ?_)
    ·
      try simp only [decide_eq_true_eq, decide_eq_false_iff_not, Bool.not_eq_true', Bool.not_eq_false', Bool.and_eq_true, Bool.or_eq_true, Bool.or_eq_false_iff, Bool.cond_true_right, Bool.cond_false_right, Bool.cond_true_left, Bool.cond_false_left, ne_eq, Decidable.not_not, bne_iff_ne, beq_iff_eq, beq_eq_false_iff_ne, Bool.not_true, Bool.not_false] at hc0
      refine wp_seq ?_
      refine rg ?_
      refine st (asP rfl) ?_
      refine st (asI rfl) ?_
      refine rg_end ?_
      refine n_then ?_
      refine wp_ret ?_
      refine r_then (ret2 (v := (.pointer _)) (v' := (.int .i64 _)) Try.results11 rfl rfl ?_)
      exact ⟨none, 4, rfl, (newE1 hc0).symm, fun _ => rfl, (fun h => by cases h), hE⟩
    ·
      try simp only [decide_eq_true_eq, decide_eq_false_iff_not, Bool.not_eq_true', Bool.not_eq_false', Bool.and_eq_true, Bool.or_eq_true, Bool.or_eq_false_iff, Bool.cond_true_right, Bool.cond_false_right, Bool.cond_true_left, Bool.cond_false_left, ne_eq, Decidable.not_not, bne_iff_ne, beq_iff_eq, beq_eq_false_iff_ne, Bool.not_true, Bool.not_false] at hc0
      obtain ⟨m, rfl⟩ : ∃ m : Nat, n = m := ⟨n.toNat, by omega⟩
      refine wp_skip ?_
      refine n_then ?_
      refine wp_seq ?_
      refine wp_seq ?_
      refine rg ?_
      refine st (mvS rfl) ?_
      refine st (y_len Try.underlying22 rfl) ?_
      refine st (y_gtr rfl rfl) ?_
      refine rg_end ?_
      refine n_then ?_
      refine cnd rfl (fun hc1 => ?_) (fun hc1 => ?_)
      ·
        try simp only [decide_eq_true_eq, decide_eq_false_iff_not, Bool.not_eq_true', Bool.not_eq_false', Bool.and_eq_true, Bool.or_eq_true, Bool.or_eq_false_iff, Bool.cond_true_right, Bool.cond_false_right, Bool.cond_true_left, Bool.cond_false_left, ne_eq, Decidable.not_not, bne_iff_ne, beq_iff_eq, beq_eq_false_iff_ne, Bool.not_true, Bool.not_false] at hc1
        refine wp_seq ?_
        refine rg ?_
        refine st (asP rfl) ?_
        refine st (asI rfl) ?_
        refine rg_end ?_
        refine n_then ?_
        refine wp_ret ?_
        refine r_then (ret2 (v := (.pointer _)) (v' := (.int .i64 _)) Try.results11 rfl rfl ?_)
        exact ⟨none, 7, rfl, (newE2 hc0 hc1).symm, fun _ => rfl, (fun h => by cases h), hE⟩
      ·
        try simp only [decide_eq_true_eq, decide_eq_false_iff_not, Bool.not_eq_true', Bool.not_eq_false', Bool.and_eq_true, Bool.or_eq_true, Bool.or_eq_false_iff, Bool.cond_true_right, Bool.cond_false_right, Bool.cond_true_left, Bool.cond_false_left, ne_eq, Decidable.not_not, bne_iff_ne, beq_iff_eq, beq_eq_false_iff_ne, Bool.not_true, Bool.not_false] at hc1
        have hne := newE3 hc0 (fl := fl) (by omega)
        refine wp_skip ?_
        refine n_then ?_
        refine wp_seq ?_
        refine wp_seq ?_
        refine rg ?_
        refine st (mvS rfl) ?_
        refine st (y_len Try.underlying22 rfl) ?_
        refine st (mvI rfl) ?_
        refine rg_end ?_
        refine n_then ?_
        refine wp_block ?_
        refine lp (γ := Nat) [4, 5, 6, 7, 9, 23, 24, 25, 26, 27, 28, 29, 30, 31, 32, 33, 34, 35, 36, 37, 38, 39, 40, 41, 42, 43, 44, 45, 46, 47, 48, 49, 50, 51, 52, 53, 54, 55, 56, 57, 58, 59, 60, 61, 62, 63, 64, 65, 66, 67, 68, 69, 70, 71, 72, 73, 74, 75, 76, 77, 78, 79, 80, 81, 82, 83, 84] (fun k => [(23, .int .i64 (k : Int))]) (fun k w_ => Ext w2 w_ ∧ (k : Int) ≤ fl.length ∧ newGo m [] fl = newGo m (fl.take k) (fl.drop k)) (fun k => fl.length - k) 0 ⟨rfl, trivial⟩ ⟨Out.refl _ _ _, by omega, rfl⟩ ?_
        rintro k hav_ w5 ⟨ho6, hk, hgo⟩
        have hlp0 := ho6
        have hz7 := ho6.size
        replace hF := hF.ext ho6
        replace hE := hE.step ho6 (.inl (Nat.le_refl _))
        refine wp_seq ?_
        refine rg ?_
        refine st (y_lss rfl rfl) ?_
        refine rg_end ?_
        refine n_then ?_
        refine wp_seq ?_
        refine cnd rfl (fun hc2 => ?_) (fun hc2 => ?_)
        ·
          try simp only [decide_eq_true_eq, decide_eq_false_iff_not, Bool.not_eq_true', Bool.not_eq_false', Bool.and_eq_true, Bool.or_eq_true, Bool.or_eq_false_iff, Bool.cond_true_right, Bool.cond_false_right, Bool.cond_true_left, Bool.cond_false_left, ne_eq, Decidable.not_not, bne_iff_ne, beq_iff_eq, beq_eq_false_iff_ne, Bool.not_true, Bool.not_false] at hc2
          refine wp_skip ?_
          refine n_then ?_
          refine wp_seq ?_
          refine wp_block ?_
          refine wp_seq ?_
          refine rg ?_
          refine st (mvI rfl) ?_
          refine st (y_ix hF sl22 rfl (rfl) rfl (by omega) (by omega)) ?_
          refine st (y_lw hF agg35 rfl (by omega) (by omega)) ?_
          refine sd (d_allocA zer35 ?_)
          intro b7 w8 hbb7 hs10 ho9 hb7
          have hz11 := ho9.size
          replace hF := hF.ext ho9
          replace hE := hE.step ho9 (.inl (Nat.le_refl _))
          replace hlp0 := hlp0.step ho9 (.inl (Nat.le_refl _))
          refine st (asI rfl) ?_
          refine sd0 (d_stN hb7 rfl rfl sz35 rfl rfl ?_)
          intro w12 hs14 ho13 hb7'
          clear hb7; have hb7 := hb7'; clear hb7'
          have hz15 := ho13.size
          replace hF := hF.out ho13 (by first | omega | (simp only [blk_some, hi1_some] at *; omega))
          replace hE := hE.step ho13 (by first | omega | (simp only [blk_some, hi1_some] at *; omega))
          replace hlp0 := hlp0.step ho13 (by first | omega | (simp only [blk_some, hi1_some] at *; omega))
          refine rg_end ?_
          refine n_then ?_
          refine wp_seq ?_
          refine cut (γ := Unit) [28, 29, 30, 31, 32, 33, 34, 35, 36, 37, 38, 39, 40, 41, 42, 43, 44, 45, 46, 47, 48, 49, 50, 51, 52, 53, 54, 55, 56, 57] (fun _ => [(57, .bool (fkBad m (el fl (k : Int))))]) (fun _ w_ => Ext w12 w_ ∧ True) ?_ ?_
          ·
            have hcut := Out.refl 0 0 w12
            refine rg ?_
            refine st (y_fld fld35_0 rfl) ?_
            refine st (y_lb hb7 na3 rfl rfl) ?_
            refine st (y_lss rfl rfl) ?_
            refine st (mvB rfl) ?_
            refine gspL 31 rfl (fun hg16 => ?_) (fun hg16 => ?_)
            ·
              have hg16n := hg16; try simp only [decide_eq_true_eq, decide_eq_false_iff_not, Bool.not_eq_true', Bool.not_eq_false', Bool.and_eq_true, Bool.or_eq_true, Bool.or_eq_false_iff, Bool.cond_true_right, Bool.cond_false_right, Bool.cond_true_left, Bool.cond_false_left, ne_eq, Decidable.not_not, bne_iff_ne, beq_iff_eq, beq_eq_false_iff_ne, Bool.not_true, Bool.not_false] at hg16n
              refine sts rfl rfl hg16 ?_
              refine sts rfl rfl hg16 ?_
              refine sts rfl rfl hg16 ?_
              refine sts rfl rfl hg16 ?_
              refine st (y_pickT rfl hg16 (v := .bool _) rfl) ?_
              refine st (mvB rfl) ?_
              refine sts rfl rfl rfl ?_
              refine sts rfl rfl rfl ?_
              refine sts rfl rfl rfl ?_
              refine st (y_pickT rfl rfl (v := .bool _) rfl) ?_
              refine st (mvB rfl) ?_
              refine sts rfl rfl rfl ?_
              refine sts rfl rfl rfl ?_
              refine sts rfl rfl rfl ?_
              refine sts rfl rfl rfl ?_
              refine st (y_pickT rfl rfl (v := .bool _) rfl) ?_
              refine st (mvB rfl) ?_
              refine sts rfl rfl rfl ?_
              refine sts rfl rfl rfl ?_
              refine sts rfl rfl rfl ?_
              refine sts rfl rfl rfl ?_
              refine stu rfl rfl ?_
              refine stu rfl rfl ?_
              refine stu rfl rfl ?_
              refine sts rfl rfl rfl ?_
              refine st (y_pickT rfl rfl (v := .bool _) rfl) ?_
              refine rg_end ?_
              exact n_then ⟨(), _, rfl, same_lk rfl (same_rfl), ⟨vb (by simp only [fkBad, decide_eq_true_eq, decide_eq_false_iff_not, Bool.not_eq_true', Bool.not_eq_eq_eq_not, Bool.not_true, Bool.false_eq_true, false_iff, true_iff, iff_true, iff_false]; omega), trivial⟩, ⟨hcut, trivial⟩⟩
            ·
              have hg16n := hg16; try simp only [decide_eq_true_eq, decide_eq_false_iff_not, Bool.not_eq_true', Bool.not_eq_false', Bool.and_eq_true, Bool.or_eq_true, Bool.or_eq_false_iff, Bool.cond_true_right, Bool.cond_false_right, Bool.cond_true_left, Bool.cond_false_left, ne_eq, Decidable.not_not, bne_iff_ne, beq_iff_eq, beq_eq_false_iff_ne, Bool.not_true, Bool.not_false] at hg16n
              refine stg rfl rfl hg16 (y_fld fld35_0 rfl) ?_
              refine stg rfl rfl hg16 (y_lb hb7 na3 rfl rfl) ?_
              refine stg rfl rfl hg16 (mvI rfl) ?_
              refine stg rfl rfl hg16 (y_geq rfl rfl) ?_
              refine st (y_pickF rfl hg16 (v := .bool _) rfl) ?_
              refine st (mvB rfl) ?_
              refine gspL 37 rfl (fun hg17 => ?_) (fun hg17 => ?_)
              ·
                have hg17n := hg17; try simp only [decide_eq_true_eq, decide_eq_false_iff_not, Bool.not_eq_true', Bool.not_eq_false', Bool.and_eq_true, Bool.or_eq_true, Bool.or_eq_false_iff, Bool.cond_true_right, Bool.cond_false_right, Bool.cond_true_left, Bool.cond_false_left, ne_eq, Decidable.not_not, bne_iff_ne, beq_iff_eq, beq_eq_false_iff_ne, Bool.not_true, Bool.not_false] at hg17n
                refine sts rfl rfl hg17 ?_
                refine sts rfl rfl hg17 ?_
                refine sts rfl rfl hg17 ?_
                refine st (y_pickT rfl hg17 (v := .bool _) rfl) ?_
                refine st (mvB rfl) ?_
                refine sts rfl rfl rfl ?_
                refine sts rfl rfl rfl ?_
                refine sts rfl rfl rfl ?_
                refine sts rfl rfl rfl ?_
                refine st (y_pickT rfl rfl (v := .bool _) rfl) ?_
                refine st (mvB rfl) ?_
                refine sts rfl rfl rfl ?_
                refine sts rfl rfl rfl ?_
                refine sts rfl rfl rfl ?_
                refine sts rfl rfl rfl ?_
                refine stu rfl rfl ?_
                refine stu rfl rfl ?_
                refine stu rfl rfl ?_
                refine sts rfl rfl rfl ?_
                refine st (y_pickT rfl rfl (v := .bool _) rfl) ?_
                refine rg_end ?_
                exact n_then ⟨(), _, rfl, same_lk rfl (same_rfl), ⟨vb (by simp only [fkBad, decide_eq_true_eq, decide_eq_false_iff_not, Bool.not_eq_true', Bool.not_eq_eq_eq_not, Bool.not_true, Bool.false_eq_true, false_iff, true_iff, iff_true, iff_false]; omega), trivial⟩, ⟨hcut, trivial⟩⟩
              ·
                have hg17n := hg17; try simp only [decide_eq_true_eq, decide_eq_false_iff_not, Bool.not_eq_true', Bool.not_eq_false', Bool.and_eq_true, Bool.or_eq_true, Bool.or_eq_false_iff, Bool.cond_true_right, Bool.cond_false_right, Bool.cond_true_left, Bool.cond_false_left, ne_eq, Decidable.not_not, bne_iff_ne, beq_iff_eq, beq_eq_false_iff_ne, Bool.not_true, Bool.not_false] at hg17n
                refine stg rfl rfl hg17 (y_fld fld35_1 rfl) ?_
                refine stg rfl rfl hg17 (y_lb hb7 na3 rfl rfl) ?_
                refine stg rfl rfl hg17 (y_lss rfl rfl) ?_
                refine st (y_pickF rfl hg17 (v := .bool _) rfl) ?_
                refine st (mvB rfl) ?_
                refine gspL 42 rfl (fun hg18 => ?_) (fun hg18 => ?_)
                ·
                  have hg18n := hg18; try simp only [decide_eq_true_eq, decide_eq_false_iff_not, Bool.not_eq_true', Bool.not_eq_false', Bool.and_eq_true, Bool.or_eq_true, Bool.or_eq_false_iff, Bool.cond_true_right, Bool.cond_false_right, Bool.cond_true_left, Bool.cond_false_left, ne_eq, Decidable.not_not, bne_iff_ne, beq_iff_eq, beq_eq_false_iff_ne, Bool.not_true, Bool.not_false] at hg18n
                  refine sts rfl rfl hg18 ?_
                  refine sts rfl rfl hg18 ?_
                  refine sts rfl rfl hg18 ?_
                  refine sts rfl rfl hg18 ?_
                  refine st (y_pickT rfl hg18 (v := .bool _) rfl) ?_
                  refine st (mvB rfl) ?_
                  refine sts rfl rfl rfl ?_
                  refine sts rfl rfl rfl ?_
                  refine sts rfl rfl rfl ?_
                  refine sts rfl rfl rfl ?_
                  refine stu rfl rfl ?_
                  refine stu rfl rfl ?_
                  refine stu rfl rfl ?_
                  refine sts rfl rfl rfl ?_
                  refine st (y_pickT rfl rfl (v := .bool _) rfl) ?_
                  refine rg_end ?_
                  exact n_then ⟨(), _, rfl, same_lk rfl (same_rfl), ⟨vb (by simp only [fkBad, decide_eq_true_eq, decide_eq_false_iff_not, Bool.not_eq_true', Bool.not_eq_eq_eq_not, Bool.not_true, Bool.false_eq_true, false_iff, true_iff, iff_true, iff_false]; omega), trivial⟩, ⟨hcut, trivial⟩⟩
                ·
                  have hg18n := hg18; try simp only [decide_eq_true_eq, decide_eq_false_iff_not, Bool.not_eq_true', Bool.not_eq_false', Bool.and_eq_true, Bool.or_eq_true, Bool.or_eq_false_iff, Bool.cond_true_right, Bool.cond_false_right, Bool.cond_true_left, Bool.cond_false_left, ne_eq, Decidable.not_not, bne_iff_ne, beq_iff_eq, beq_eq_false_iff_ne, Bool.not_true, Bool.not_false] at hg18n
                  refine stg rfl rfl hg18 (y_fld fld35_1 rfl) ?_
                  refine stg rfl rfl hg18 (y_lb hb7 na3 rfl rfl) ?_
                  refine stg rfl rfl hg18 (mvI rfl) ?_
                  refine stg rfl rfl hg18 (y_geq rfl rfl) ?_
                  refine st (y_pickF rfl hg18 (v := .bool _) rfl) ?_
                  refine st (mvB rfl) ?_
                  refine gspL 48 rfl (fun hg19 => ?_) (fun hg19 => ?_)
                  ·
                    have hg19n := hg19; try simp only [decide_eq_true_eq, decide_eq_false_iff_not, Bool.not_eq_true', Bool.not_eq_false', Bool.and_eq_true, Bool.or_eq_true, Bool.or_eq_false_iff, Bool.cond_true_right, Bool.cond_false_right, Bool.cond_true_left, Bool.cond_false_left, ne_eq, Decidable.not_not, bne_iff_ne, beq_iff_eq, beq_eq_false_iff_ne, Bool.not_true, Bool.not_false] at hg19n
                    refine sts rfl rfl hg19 ?_
                    refine sts rfl rfl hg19 ?_
                    refine sts rfl rfl hg19 ?_
                    refine sts rfl rfl hg19 ?_
                    refine stu rfl rfl ?_
                    refine stu rfl rfl ?_
                    refine stu rfl rfl ?_
                    refine sts rfl rfl hg19 ?_
                    refine st (y_pickT rfl hg19 (v := .bool _) rfl) ?_
                    refine rg_end ?_
                    exact n_then ⟨(), _, rfl, same_lk rfl (same_rfl), ⟨vb (by simp only [fkBad, decide_eq_true_eq, decide_eq_false_iff_not, Bool.not_eq_true', Bool.not_eq_eq_eq_not, Bool.not_true, Bool.false_eq_true, false_iff, true_iff, iff_true, iff_false]; omega), trivial⟩, ⟨hcut, trivial⟩⟩
                  ·
                    have hg19n := hg19; try simp only [decide_eq_true_eq, decide_eq_false_iff_not, Bool.not_eq_true', Bool.not_eq_false', Bool.and_eq_true, Bool.or_eq_true, Bool.or_eq_false_iff, Bool.cond_true_right, Bool.cond_false_right, Bool.cond_true_left, Bool.cond_false_left, ne_eq, Decidable.not_not, bne_iff_ne, beq_iff_eq, beq_eq_false_iff_ne, Bool.not_true, Bool.not_false] at hg19n
                    refine stg rfl rfl hg19 (y_fld fld35_2 rfl) ?_
                    refine stg rfl rfl hg19 (y_lb hb7 na3 rfl rfl) ?_
                    refine stg rfl rfl hg19 (y_neq rfl rfl) ?_
                    refine stg rfl rfl hg19 (mvB rfl) ?_
                    refine gspL 52 rfl (fun hg20 => ?_) (fun hg20 => ?_)
                    ·
                      have hg20n := hg20; try simp only [decide_eq_true_eq, decide_eq_false_iff_not, Bool.not_eq_true', Bool.not_eq_false', Bool.and_eq_true, Bool.or_eq_true, Bool.or_eq_false_iff, Bool.cond_true_right, Bool.cond_false_right, Bool.cond_true_left, Bool.cond_false_left, ne_eq, Decidable.not_not, bne_iff_ne, beq_iff_eq, beq_eq_false_iff_ne, Bool.not_true, Bool.not_false] at hg20n
                      refine stg rfl rfl hg20 (y_fld fld35_2 rfl) ?_
                      refine stg rfl rfl hg20 (y_lb hb7 na3 rfl rfl) ?_
                      refine stg rfl rfl hg20 (y_neq rfl rfl) ?_
                      refine stg rfl rfl hg19 (y_pickT rfl hg20 (v := .bool _) rfl) ?_
                      refine st (y_pickF rfl hg19 (v := .bool _) rfl) ?_
                      refine rg_end ?_
                      exact n_then ⟨(), _, rfl, same_lk rfl (same_rfl), ⟨vb (by simp only [fkBad, decide_eq_true_eq, decide_eq_false_iff_not, Bool.not_eq_true', Bool.not_eq_eq_eq_not, Bool.not_true, Bool.false_eq_true, false_iff, true_iff, iff_true, iff_false]; omega), trivial⟩, ⟨hcut, trivial⟩⟩
                    ·
                      have hg20n := hg20; try simp only [decide_eq_true_eq, decide_eq_false_iff_not, Bool.not_eq_true', Bool.not_eq_false', Bool.and_eq_true, Bool.or_eq_true, Bool.or_eq_false_iff, Bool.cond_true_right, Bool.cond_false_right, Bool.cond_true_left, Bool.cond_false_left, ne_eq, Decidable.not_not, bne_iff_ne, beq_iff_eq, beq_eq_false_iff_ne, Bool.not_true, Bool.not_false] at hg20n
                      refine sts rfl rfl hg20 ?_
                      refine sts rfl rfl hg20 ?_
                      refine sts rfl rfl hg20 ?_
                      refine stg rfl rfl hg19 (y_pickF rfl hg20 (v := .bool _) rfl) ?_
                      refine st (y_pickF rfl hg19 (v := .bool _) rfl) ?_
                      refine rg_end ?_
                      exact n_then ⟨(), _, rfl, same_lk rfl (same_rfl), ⟨vb (by simp only [fkBad, decide_eq_true_eq, decide_eq_false_iff_not, Bool.not_eq_true', Bool.not_eq_eq_eq_not, Bool.not_true, Bool.false_eq_true, false_iff, true_iff, iff_true, iff_false]; omega), trivial⟩, ⟨hcut, trivial⟩⟩
          ·
            rintro _ hav_ w21 ⟨ho22, _⟩
            have hz23 := ho22.size
            replace hF := hF.ext ho22
            replace hE := hE.step ho22 (.inl (Nat.le_refl _))
            replace hlp0 := hlp0.step ho22 (.inl (Nat.le_refl _))
            replace hb7 := hb7.ext ho22
            refine cnd rfl (fun hc3 => ?_) (fun hc3 => ?_)
            ·
              try simp only [decide_eq_true_eq, decide_eq_false_iff_not, Bool.not_eq_true', Bool.not_eq_false', Bool.and_eq_true, Bool.or_eq_true, Bool.or_eq_false_iff, Bool.cond_true_right, Bool.cond_false_right, Bool.cond_true_left, Bool.cond_false_left, ne_eq, Decidable.not_not, bne_iff_ne, beq_iff_eq, beq_eq_false_iff_ne, Bool.not_true, Bool.not_false] at hc3
              refine wp_seq ?_
              refine rg ?_
              refine st (asP rfl) ?_
              refine st (asI rfl) ?_
              refine rg_end ?_
              refine n_then ?_
              refine wp_ret ?_
              refine r_then (r_blk (r_then (r_then (r_blk (r_then (ret2 (v := (.pointer _)) (v' := (.int .i64 _)) Try.results11 rfl rfl ?_))))))
              exact ⟨none, 4, rfl, (hne.trans ((newGo_err hc2 hgo (by rw [fkE1 hc3]; decide)).trans (fkE1 hc3))).symm, fun _ => rfl, (fun h => by cases h), hE⟩
            ·
              try simp only [decide_eq_true_eq, decide_eq_false_iff_not, Bool.not_eq_true', Bool.not_eq_false', Bool.and_eq_true, Bool.or_eq_true, Bool.or_eq_false_iff, Bool.cond_true_right, Bool.cond_false_right, Bool.cond_true_left, Bool.cond_false_left, ne_eq, Decidable.not_not, bne_iff_ne, beq_iff_eq, beq_eq_false_iff_ne, Bool.not_true, Bool.not_false] at hc3
              refine wp_skip ?_
              refine n_then ?_
              refine wp_seq ?_
              refine wp_seq ?_
              refine rg ?_
              refine st (y_fld fld35_0 rfl) ?_
              refine st (y_lb hb7 na3 rfl rfl) ?_
              refine st (y_fld fld35_1 rfl) ?_
              refine st (y_lb hb7 na3 rfl rfl) ?_
              refine st (y_eql rfl rfl) ?_
              refine rg_end ?_
              refine n_then ?_
              refine cnd rfl (fun hc4 => ?_) (fun hc4 => ?_)
              ·
                try simp only [decide_eq_true_eq, decide_eq_false_iff_not, Bool.not_eq_true', Bool.not_eq_false', Bool.and_eq_true, Bool.or_eq_true, Bool.or_eq_false_iff, Bool.cond_true_right, Bool.cond_false_right, Bool.cond_true_left, Bool.cond_false_left, ne_eq, Decidable.not_not, bne_iff_ne, beq_iff_eq, beq_eq_false_iff_ne, Bool.not_true, Bool.not_false] at hc4
                refine wp_seq ?_
                refine rg ?_
                refine st (asP rfl) ?_
                refine st (asI rfl) ?_
                refine rg_end ?_
                refine n_then ?_
                refine wp_ret ?_
                refine r_then (r_blk (r_then (r_then (r_blk (r_then (ret2 (v := (.pointer _)) (v' := (.int .i64 _)) Try.results11 rfl rfl ?_))))))
                exact ⟨none, 1, rfl, (hne.trans ((newGo_err hc2 hgo (by rw [fkE2 hc3 hc4]; decide)).trans (fkE2 hc3 hc4))).symm, fun _ => rfl, (fun h => by cases h), hE⟩
              ·
                try simp only [decide_eq_true_eq, decide_eq_false_iff_not, Bool.not_eq_true', Bool.not_eq_false', Bool.and_eq_true, Bool.or_eq_true, Bool.or_eq_false_iff, Bool.cond_true_right, Bool.cond_false_right, Bool.cond_true_left, Bool.cond_false_left, ne_eq, Decidable.not_not, bne_iff_ne, beq_iff_eq, beq_eq_false_iff_ne, Bool.not_true, Bool.not_false] at hc4
                refine wp_skip ?_
                refine n_then ?_
                refine wp_seq ?_
                refine rg ?_
                refine st (mvS rfl) ?_
                refine st (mvI rfl) ?_
                refine st (y_slh sl22 rfl rfl (by omega) (by omega)) ?_
                have hpre := hF.take k
                refine st (y_len Try.underlying22 rfl) ?_
                refine st (mvI rfl) ?_
                refine rg_end ?_
                refine n_then ?_
                refine wp_block ?_
                refine lp (γ := Nat) [4, 5, 9, 67, 68, 69, 70, 71, 72, 73, 74, 75, 76, 77, 78, 79, 80, 81, 82, 83] (fun j => [(67, .int .i64 (j : Int))]) (fun j w_ => Ext w21 w_ ∧ j ≤ k ∧ (fl.take j).any (sameFk (el fl (k : Int))) = false) (fun j => k - j) 0 ⟨rfl, trivial⟩ ⟨Out.refl _ _ _, by omega, by simp⟩ ?_
                rintro j hav_ w24 ⟨ho25, hj, hany⟩
                have hlp1 := ho25
                have hz26 := ho25.size
                replace hF := hF.ext ho25
                replace hE := hE.step ho25 (.inl (Nat.le_refl _))
                replace hlp0 := hlp0.step ho25 (.inl (Nat.le_refl _))
                replace hb7 := hb7.ext ho25
                replace hpre := hpre.ext ho25
                refine wp_seq ?_
                refine rg ?_
                refine st (y_lss rfl rfl) ?_
                refine rg_end ?_
                refine n_then ?_
                refine wp_seq ?_
                refine cnd rfl (fun hc5 => ?_) (fun hc5 => ?_)
                ·
                  try simp only [decide_eq_true_eq, decide_eq_false_iff_not, Bool.not_eq_true', Bool.not_eq_false', Bool.and_eq_true, Bool.or_eq_true, Bool.or_eq_false_iff, Bool.cond_true_right, Bool.cond_false_right, Bool.cond_true_left, Bool.cond_false_left, ne_eq, Decidable.not_not, bne_iff_ne, beq_iff_eq, beq_eq_false_iff_ne, Bool.not_true, Bool.not_false] at hc5
                  have het : el (fl.take k) (j : Int) = el fl (j : Int) := el_take (by omega) (by omega)
                  have hpl : (fl.take k).length = k := by simp; omega
                  refine wp_skip ?_
                  refine n_then ?_
                  refine wp_seq ?_
                  refine wp_block ?_
                  refine wp_seq ?_
                  refine rg ?_
                  refine st (y_ix hpre sl22 rfl (by simp; omega) rfl (by omega) (by omega)) ?_
                  refine st (y_lw hpre agg35 rfl (by omega) (by omega)) ?_
                  refine sd (d_allocA zer35 ?_)
                  intro b9 w27 hbb9 hs29 ho28 hb9
                  have hz30 := ho28.size
                  replace hF := hF.ext ho28
                  replace hE := hE.step ho28 (.inl (Nat.le_refl _))
                  replace hlp0 := hlp0.step ho28 (.inl (Nat.le_refl _))
                  replace hb7 := hb7.ext ho28
                  replace hpre := hpre.ext ho28
                  replace hlp1 := hlp1.step ho28 (.inl (Nat.le_refl _))
                  refine sd0 (d_stN hb9 rfl rfl sz35 rfl rfl ?_)
                  intro w31 hs33 ho32 hb9'
                  clear hb9; have hb9 := hb9'; clear hb9'
                  have hz34 := ho32.size
                  replace hF := hF.out ho32 (by first | omega | (simp only [blk_some, hi1_some] at *; omega))
                  replace hE := hE.step ho32 (by first | omega | (simp only [blk_some, hi1_some] at *; omega))
                  replace hlp0 := hlp0.step ho32 (by first | omega | (simp only [blk_some, hi1_some] at *; omega))
                  replace hb7 := hb7.out ho32 (by first | omega | (simp only [blk_some, hi1_some] at *; omega))
                  replace hpre := hpre.out ho32 (by first | omega | (simp only [blk_some, hi1_some] at *; omega))
                  replace hlp1 := hlp1.step ho32 (by first | omega | (simp only [blk_some, hi1_some] at *; omega))
                  refine rg_end ?_
                  refine n_then ?_
                  refine cut (γ := Unit) [71, 72, 73, 74, 75, 76, 77, 78, 79, 80, 81, 82] (fun _ => [(82, .bool (sameFk (el fl (k : Int)) (el fl (j : Int))))]) (fun _ w_ => Ext w31 w_ ∧ True) ?_ ?_
                  ·
                    have hcut := Out.refl 0 0 w31
                    refine rg ?_
                    refine st (y_fld fld35_0 rfl) ?_
                    refine st (y_lb hb9 na3 rfl rfl) ?_
                    refine st (y_fld fld35_0 rfl) ?_
                    refine st (y_lb hb7 na3 rfl rfl) ?_
                    refine st (y_eql rfl rfl) ?_
                    refine st (mvB rfl) ?_
                    refine gspL 76 rfl (fun hg35 => ?_) (fun hg35 => ?_)
                    ·
                      have hg35n := hg35; try simp only [decide_eq_true_eq, decide_eq_false_iff_not, Bool.not_eq_true', Bool.not_eq_false', Bool.and_eq_true, Bool.or_eq_true, Bool.or_eq_false_iff, Bool.cond_true_right, Bool.cond_false_right, Bool.cond_true_left, Bool.cond_false_left, ne_eq, Decidable.not_not, bne_iff_ne, beq_iff_eq, beq_eq_false_iff_ne, Bool.not_true, Bool.not_false] at hg35n
                      refine stg rfl rfl hg35 (y_fld fld35_1 rfl) ?_
                      refine stg rfl rfl hg35 (y_lb hb9 na3 rfl rfl) ?_
                      refine stg rfl rfl hg35 (y_fld fld35_1 rfl) ?_
                      refine stg rfl rfl hg35 (y_lb hb7 na3 rfl rfl) ?_
                      refine stg rfl rfl hg35 (y_eql rfl rfl) ?_
                      refine st (y_pickT rfl hg35 (v := .bool _) rfl) ?_
                      refine rg_end ?_
                      exact n_then ⟨(), _, rfl, same_lk rfl (same_rfl), ⟨vb (by simp only [sameFk, ← het, decide_eq_true_eq, decide_eq_false_iff_not, Bool.not_eq_true', Bool.not_eq_eq_eq_not, Bool.not_true, Bool.false_eq_true, false_iff, true_iff, iff_true, iff_false]; omega), trivial⟩, ⟨hcut, trivial⟩⟩
                    ·
                      have hg35n := hg35; try simp only [decide_eq_true_eq, decide_eq_false_iff_not, Bool.not_eq_true', Bool.not_eq_false', Bool.and_eq_true, Bool.or_eq_true, Bool.or_eq_false_iff, Bool.cond_true_right, Bool.cond_false_right, Bool.cond_true_left, Bool.cond_false_left, ne_eq, Decidable.not_not, bne_iff_ne, beq_iff_eq, beq_eq_false_iff_ne, Bool.not_true, Bool.not_false] at hg35n
                      refine sts rfl rfl hg35 ?_
                      refine sts rfl rfl hg35 ?_
                      refine sts rfl rfl hg35 ?_
                      refine sts rfl rfl hg35 ?_
                      refine sts rfl rfl hg35 ?_
                      refine st (y_pickF rfl hg35 (v := .bool _) rfl) ?_
                      refine rg_end ?_
                      exact n_then ⟨(), _, rfl, same_lk rfl (same_rfl), ⟨vb (by simp only [sameFk, ← het, decide_eq_true_eq, decide_eq_false_iff_not, Bool.not_eq_true', Bool.not_eq_eq_eq_not, Bool.not_true, Bool.false_eq_true, false_iff, true_iff, iff_true, iff_false]; omega), trivial⟩, ⟨hcut, trivial⟩⟩
                  ·
                    rintro _ hav_ w36 ⟨ho37, _⟩
                    have hz38 := ho37.size
                    replace hF := hF.ext ho37
                    replace hE := hE.step ho37 (.inl (Nat.le_refl _))
                    replace hlp0 := hlp0.step ho37 (.inl (Nat.le_refl _))
                    replace hb7 := hb7.ext ho37
                    replace hpre := hpre.ext ho37
                    replace hlp1 := hlp1.step ho37 (.inl (Nat.le_refl _))
                    replace hb9 := hb9.ext ho37
                    refine cnd rfl (fun hc6 => ?_) (fun hc6 => ?_)
                    ·
                      try simp only [decide_eq_true_eq, decide_eq_false_iff_not, Bool.not_eq_true', Bool.not_eq_false', Bool.and_eq_true, Bool.or_eq_true, Bool.or_eq_false_iff, Bool.cond_true_right, Bool.cond_false_right, Bool.cond_true_left, Bool.cond_false_left, ne_eq, Decidable.not_not, bne_iff_ne, beq_iff_eq, beq_eq_false_iff_ne, Bool.not_true, Bool.not_false] at hc6
                      refine wp_seq ?_
                      refine rg ?_
                      refine st (asP rfl) ?_
                      refine st (asI rfl) ?_
                      refine rg_end ?_
                      refine n_then ?_
                      refine wp_ret ?_
                      refine r_blk (r_then (r_then (r_blk (r_blk (r_then (r_then (r_blk (r_then (ret2 (v := (.pointer _)) (v' := (.int .i64 _)) Try.results11 rfl rfl ?_)))))))))
                      exact ⟨none, 5, rfl, (hne.trans ((newGo_err hc2 hgo (by rw [fkE3 hc3 hc4 (any_pre hc2 (by omega) hc6)]; decide)).trans (fkE3 hc3 hc4 (any_pre hc2 (by omega) hc6)))).symm, fun _ => rfl, (fun h => by cases h), hE⟩
                    ·
                      try simp only [decide_eq_true_eq, decide_eq_false_iff_not, Bool.not_eq_true', Bool.not_eq_false', Bool.and_eq_true, Bool.or_eq_true, Bool.or_eq_false_iff, Bool.cond_true_right, Bool.cond_false_right, Bool.cond_true_left, Bool.cond_false_left, ne_eq, Decidable.not_not, bne_iff_ne, beq_iff_eq, beq_eq_false_iff_ne, Bool.not_true, Bool.not_false] at hc6
                      refine wp_skip ?_
                      refine n_blk ?_
                      refine n_then ?_
                      refine rg ?_
                      refine st (y_add rfl rfl (by omega)) ?_
                      refine st (mvI rfl) ?_
                      refine rg_end ?_
                      exact n_then ⟨j + 1, _, rfl, same_lk rfl (same_hav rfl (same_lk rfl (same_h0))), ⟨rfl, trivial⟩, ⟨hlp1, by omega, any_take_step (by omega) hany hc6⟩, by first | omega | (dsimp only; omega)⟩
                ·
                  try simp only [decide_eq_true_eq, decide_eq_false_iff_not, Bool.not_eq_true', Bool.not_eq_false', Bool.and_eq_true, Bool.or_eq_true, Bool.or_eq_false_iff, Bool.cond_true_right, Bool.cond_false_right, Bool.cond_true_left, Bool.cond_false_left, ne_eq, Decidable.not_not, bne_iff_ne, beq_iff_eq, beq_eq_false_iff_ne, Bool.not_true, Bool.not_false] at hc5
                  have hj0 : j = k := by omega
                  rw [hj0] at hany
                  have hz := fkE4 hc3 hc4 hany
                  refine wp_exit ?_
                  refine e_then (e_then (e_blk (?_)))
                  refine n_blk ?_
                  refine n_then ?_
                  refine rg ?_
                  refine st (y_add rfl rfl (by omega)) ?_
                  refine st (mvI rfl) ?_
                  refine rg_end ?_
                  exact n_then ⟨k + 1, _, rfl, same_lk rfl (same_hav rfl (same_lk rfl (same_hav rfl (same_lk rfl (same_h0))))), ⟨rfl, trivial⟩, ⟨hlp0, by omega, newGo_step hc2 hgo hz⟩, by first | omega | (dsimp only; omega)⟩
        ·
          try simp only [decide_eq_true_eq, decide_eq_false_iff_not, Bool.not_eq_true', Bool.not_eq_false', Bool.and_eq_true, Bool.or_eq_true, Bool.or_eq_false_iff, Bool.cond_true_right, Bool.cond_false_right, Bool.cond_true_left, Bool.cond_false_left, ne_eq, Decidable.not_not, bne_iff_ne, beq_iff_eq, beq_eq_false_iff_ne, Bool.not_true, Bool.not_false] at hc2
          refine wp_exit ?_
          refine e_then (e_then (e_blk (?_)))
          refine n_then ?_
          refine cut (γ := Nat × Nat × Nat × Nat × Option Addr × Nat × Nat × Nat) [10, 85, 86, 87, 88, 89, 90, 91, 92, 93, 94] (fun ⟨b, bp, br, bc, au, cu, l2, h2⟩ => [(10, .pointer (some ⟨b, 0, none⟩))]) (fun ⟨b, bp, br, bc, au, cu, l2, h2⟩ w_ => Ext w5 w_ ∧ Blk w_ b [.slice none 0 0, .slice (some ⟨bp, 0, none⟩) m m, .slice (some ⟨br, 0, none⟩) m m, .slice (some ⟨bc, 0, none⟩) m m, .slice au fl.length cu] ∧ Ow 3 encI 1 w.heap.size w_.heap.size w_ (some ⟨bp, 0, none⟩) m (List.replicate m (0 : Int)) ∧ Ow 3 encI 1 w.heap.size w_.heap.size w_ (some ⟨br, 0, none⟩) m (List.replicate m (0 : Int)) ∧ Ow 4 encB 1 w.heap.size w_.heap.size w_ (some ⟨bc, 0, none⟩) m (List.replicate m false) ∧ Sl encFk 3 l2 h2 w_ au fl ∧ w.heap.size ≤ l2 ∧ h2 ≤ b ∧ b < w_.heap.size ∧ w.heap.size ≤ bp ∧ bp < b ∧ w.heap.size ≤ br ∧ br < b ∧ w.heap.size ≤ bc ∧ bc < b ∧ RSep b none (some ⟨bp, 0, none⟩) (some ⟨br, 0, none⟩) (some ⟨bc, 0, none⟩) l2 h2) ?_ ?_
          ·
            have hcut := Out.refl 0 0 w5
            refine rgP 8 (fun w_ => Ext w5 w_) (fun i => Nat.beq i 1 || Nat.beq i 3 || Nat.beq i 5 || Nat.beq i 7) (.step 0 (.step 2 (.step 4 (.step 6 (.fork 1 (.fork 3 (.fork 5 (.step 7 (.done)) (.fork 7 (.step 5 (.done)) (.last))) (.fork 5 (.fork 3 (.step 7 (.done)) (.fork 7 (.step 3 (.done)) (.last))) (.fork 7 (.fork 3 (.step 5 (.done)) (.fork 5 (.step 3 (.done)) (.last))) (.last)))) (.fork 3 (.fork 1 (.fork 5 (.step 7 (.done)) (.fork 7 (.step 5 (.done)) (.last))) (.fork 5 (.fork 1 (.step 7 (.done)) (.fork 7 (.step 1 (.done)) (.last))) (.fork 7 (.fork 1 (.step 5 (.done)) (.fork 5 (.step 1 (.done)) (.last))) (.last)))) (.fork 5 (.fork 1 (.fork 3 (.step 7 (.done)) (.fork 7 (.step 3 (.done)) (.last))) (.fork 3 (.fork 1 (.step 7 (.done)) (.fork 7 (.step 1 (.done)) (.last))) (.fork 7 (.fork 1 (.step 3 (.done)) (.fork 3 (.step 1 (.done)) (.last))) (.last)))) (.fork 7 (.fork 1 (.fork 3 (.step 5 (.done)) (.fork 5 (.step 3 (.done)) (.last))) (.fork 3 (.fork 1 (.step 5 (.done)) (.fork 5 (.step 1 (.done)) (.last))) (.fork 5 (.fork 1 (.step 3 (.done)) (.fork 3 (.step 1 (.done)) (.last))) (.last)))) (.last))))))))) mixed (by kernel_rfl) ?_
            intro w39 ho40 hs41
            refine ⟨ho40, ?_⟩
            have hx42 := ho40
            refine p_step rfl ?_
            refine tn rfl (fun _ hG => mvI rfl) ?_
            refine t_end ?_
            refine p_step rfl ?_
            refine tn rfl (fun _ hG => mvI rfl) ?_
            refine t_end ?_
            refine p_step rfl ?_
            refine tn rfl (fun _ hG => mvI rfl) ?_
            refine t_end ?_
            refine p_step rfl ?_
            refine tn rfl (fun _ hG => mvS rfl) ?_
            refine t_end ?_
            refine p_fork ?_ ?_
            ·
              refine p_step rfl ?_
              refine td rfl (d_make (m := m) (lo := w.heap.size) (enc := encI) (e0 := (0 : Int)) sl23 info3 (fun _ => rfl) rfl rfl rfl (by omega) (by unfold maxLen; omega) (by omega) ?_)
              intro bp w43 hbbp hs45 ho44 hp
              have hx47 := hx42.step ho44 (.inl (Nat.le_refl _))
              have hz48 := ho44.size
              refine ⟨hx47, ?_⟩
              refine t_end ?_
              refine p_fork ?_ ?_
              ·
                refine p_step rfl ?_
                refine td rfl (d_make (m := m) (lo := w.heap.size) (enc := encI) (e0 := (0 : Int)) sl23 info3 (fun _ => rfl) rfl rfl rfl (by omega) (by unfold maxLen; omega) (by omega) ?_)
                intro br w49 hbbr hs51 ho50 hr
                have hx53 := hx47.step ho50 (.inl (Nat.le_refl _))
                have hz54 := ho50.size
                replace hp := hp.ext ho50
                refine ⟨hx53, ?_⟩
                refine t_end ?_
                refine p_fork ?_ ?_
                ·
                  refine p_step rfl ?_
                  refine td rfl (d_make (m := m) (lo := w.heap.size) (enc := encB) (e0 := false) sl65 info4 (fun _ => rfl) rfl rfl rfl (by omega) (by unfold maxLen; omega) (by omega) ?_)
                  intro bc w55 hbbc hs57 ho56 hc_
                  have hx59 := hx53.step ho56 (.inl (Nat.le_refl _))
                  have hz60 := ho56.size
                  replace hp := hp.ext ho56
                  replace hr := hr.ext ho56
                  refine ⟨hx59, ?_⟩
                  refine t_end ?_
                  refine p_step rfl ?_
                  have hau := Ow.nil (E := 35) (sz := 3) (enc := encFk) (lo := w55.heap.size) (hi := 0) (w := w55) (fun _ => rfl)
                  have hrhau := hau.rng
                  refine td rfl (d_appN (xs := fl) hau sl22 infoz35 (by decide) rfl rfl rfl (rfl) ((hF.ext hx59)) (fun _ => rfl) (by simp; unfold maxLen; omega) (by simp; omega) (Nat.le_refl _) (Nat.zero_le _) ?_)
                  intro au cu w61 ho62 hau'
                  have hs63 := ho62.size
                  clear hau; have hau := hau'; clear hau'
                  replace ho62 : Ext _ _ := ho62
                  have hx66 := hx59.step ho62 (.inl (Nat.le_refl _))
                  have hz67 := ho62.size
                  replace hc_ := hc_.ext ho62
                  replace hp := hp.ext ho62
                  replace hr := hr.ext ho62
                  refine ⟨hx66, ?_⟩
                  simp only [List.nil_append] at hau ⊢
                  obtain ⟨lu, hu, hlu, hhu, hau⟩ := owNamed hau
                  refine t_end ?_
                  refine p_done ?_
                  have hz68 := hx66.size
                  replace hF := hF.ext hx66
                  replace hE := hE.step hx66 (.inl (Nat.le_refl _))
                  replace hcut := hcut.step hx66 (.inl (Nat.le_refl _))
                  refine st (y_build (bld67_1_2_3_4 _ _ _ _ _ _ _ _ _ _ _ _ _) rfl) ?_
                  refine sd (d_boxA rfl ?_)
                  intro bx w69 hbbx hs71 ho70 hbx
                  have hz72 := ho70.size
                  replace hF := hF.ext ho70
                  replace hE := hE.step ho70 (.inl (Nat.le_refl _))
                  replace hcut := hcut.step ho70 (.inl (Nat.le_refl _))
                  replace hp := hp.ext ho70
                  replace hr := hr.ext ho70
                  replace hc_ := hc_.ext ho70
                  replace hau := hau.ext ho70
                  refine st (asP rfl) ?_
                  refine rg_end ?_
                  exact n_then ⟨(bx, bp, br, bc, au, cu, lu, hu), _, rfl, same_lk rfl (same_rfl), ⟨rfl, trivial⟩, ⟨hcut, hbx, hp.wide (by omega), hr.wide (by (try dsimp only); omega), hc_.wide (by (try dsimp only); omega), hau.sl, by (try dsimp only); omega, by (try dsimp only); omega, by (try dsimp only); omega, by (try dsimp only); omega, by (try dsimp only); omega, by (try dsimp only); omega, by (try dsimp only); omega, by (try dsimp only); omega, by (try dsimp only); omega, rsep_mk (by (try dsimp only); omega) (by (try dsimp only); omega) (by (try dsimp only); omega) (by (try dsimp only); omega) (by (try dsimp only); omega) (by (try dsimp only); omega) (by (try dsimp only); omega) (by (try dsimp only); omega) (by (try dsimp only); omega)⟩⟩
                refine p_fork ?_ ?_
                ·
                  refine p_step rfl ?_
                  have hau := Ow.nil (E := 35) (sz := 3) (enc := encFk) (lo := w49.heap.size) (hi := 0) (w := w49) (fun _ => rfl)
                  have hrhau := hau.rng
                  refine td rfl (d_appN (xs := fl) hau sl22 infoz35 (by decide) rfl rfl rfl (rfl) ((hF.ext hx53)) (fun _ => rfl) (by simp; unfold maxLen; omega) (by simp; omega) (Nat.le_refl _) (Nat.zero_le _) ?_)
                  intro au cu w73 ho74 hau'
                  have hs75 := ho74.size
                  clear hau; have hau := hau'; clear hau'
                  replace ho74 : Ext _ _ := ho74
                  have hx78 := hx53.step ho74 (.inl (Nat.le_refl _))
                  have hz79 := ho74.size
                  replace hp := hp.ext ho74
                  replace hr := hr.ext ho74
                  refine ⟨hx78, ?_⟩
                  simp only [List.nil_append] at hau ⊢
                  obtain ⟨lu, hu, hlu, hhu, hau⟩ := owNamed hau
                  refine t_end ?_
                  refine p_step rfl ?_
                  refine td rfl (d_make (m := m) (lo := w.heap.size) (enc := encB) (e0 := false) sl65 info4 (fun _ => rfl) rfl rfl rfl (by omega) (by unfold maxLen; omega) (by omega) ?_)
                  intro bc w80 hbbc hs82 ho81 hc_
                  have hx84 := hx78.step ho81 (.inl (Nat.le_refl _))
                  have hz85 := ho81.size
                  replace hau := hau.ext ho81
                  replace hp := hp.ext ho81
                  replace hr := hr.ext ho81
                  refine ⟨hx84, ?_⟩
                  refine t_end ?_
                  refine p_done ?_
                  have hz86 := hx84.size
                  replace hF := hF.ext hx84
                  replace hE := hE.step hx84 (.inl (Nat.le_refl _))
                  replace hcut := hcut.step hx84 (.inl (Nat.le_refl _))
                  refine st (y_build (bld67_1_2_3_4 _ _ _ _ _ _ _ _ _ _ _ _ _) rfl) ?_
                  refine sd (d_boxA rfl ?_)
                  intro bx w87 hbbx hs89 ho88 hbx
                  have hz90 := ho88.size
                  replace hF := hF.ext ho88
                  replace hE := hE.step ho88 (.inl (Nat.le_refl _))
                  replace hcut := hcut.step ho88 (.inl (Nat.le_refl _))
                  replace hp := hp.ext ho88
                  replace hr := hr.ext ho88
                  replace hau := hau.ext ho88
                  replace hc_ := hc_.ext ho88
                  refine st (asP rfl) ?_
                  refine rg_end ?_
                  exact n_then ⟨(bx, bp, br, bc, au, cu, lu, hu), _, rfl, same_lk rfl (same_rfl), ⟨rfl, trivial⟩, ⟨hcut, hbx, hp.wide (by omega), hr.wide (by (try dsimp only); omega), hc_.wide (by (try dsimp only); omega), hau.sl, by (try dsimp only); omega, by (try dsimp only); omega, by (try dsimp only); omega, by (try dsimp only); omega, by (try dsimp only); omega, by (try dsimp only); omega, by (try dsimp only); omega, by (try dsimp only); omega, by (try dsimp only); omega, rsep_mk (by (try dsimp only); omega) (by (try dsimp only); omega) (by (try dsimp only); omega) (by (try dsimp only); omega) (by (try dsimp only); omega) (by (try dsimp only); omega) (by (try dsimp only); omega) (by (try dsimp only); omega) (by (try dsimp only); omega)⟩⟩
                exact p_last
              refine p_fork ?_ ?_
              ·
                refine p_step rfl ?_
                refine td rfl (d_make (m := m) (lo := w.heap.size) (enc := encB) (e0 := false) sl65 info4 (fun _ => rfl) rfl rfl rfl (by omega) (by unfold maxLen; omega) (by omega) ?_)
                intro bc w91 hbbc hs93 ho92 hc_
                have hx95 := hx47.step ho92 (.inl (Nat.le_refl _))
                have hz96 := ho92.size
                replace hp := hp.ext ho92
                refine ⟨hx95, ?_⟩
                refine t_end ?_
                refine p_fork ?_ ?_
                ·
                  refine p_step rfl ?_
                  refine td rfl (d_make (m := m) (lo := w.heap.size) (enc := encI) (e0 := (0 : Int)) sl23 info3 (fun _ => rfl) rfl rfl rfl (by omega) (by unfold maxLen; omega) (by omega) ?_)
                  intro br w97 hbbr hs99 ho98 hr
                  have hx101 := hx95.step ho98 (.inl (Nat.le_refl _))
                  have hz102 := ho98.size
                  replace hc_ := hc_.ext ho98
                  replace hp := hp.ext ho98
                  refine ⟨hx101, ?_⟩
                  refine t_end ?_
                  refine p_step rfl ?_
                  have hau := Ow.nil (E := 35) (sz := 3) (enc := encFk) (lo := w97.heap.size) (hi := 0) (w := w97) (fun _ => rfl)
                  have hrhau := hau.rng
                  refine td rfl (d_appN (xs := fl) hau sl22 infoz35 (by decide) rfl rfl rfl (rfl) ((hF.ext hx101)) (fun _ => rfl) (by simp; unfold maxLen; omega) (by simp; omega) (Nat.le_refl _) (Nat.zero_le _) ?_)
                  intro au cu w103 ho104 hau'
                  have hs105 := ho104.size
                  clear hau; have hau := hau'; clear hau'
                  replace ho104 : Ext _ _ := ho104
                  have hx108 := hx101.step ho104 (.inl (Nat.le_refl _))
                  have hz109 := ho104.size
                  replace hc_ := hc_.ext ho104
                  replace hp := hp.ext ho104
                  replace hr := hr.ext ho104
                  refine ⟨hx108, ?_⟩
                  simp only [List.nil_append] at hau ⊢
                  obtain ⟨lu, hu, hlu, hhu, hau⟩ := owNamed hau
                  refine t_end ?_
                  refine p_done ?_
                  have hz110 := hx108.size
                  replace hF := hF.ext hx108
                  replace hE := hE.step hx108 (.inl (Nat.le_refl _))
                  replace hcut := hcut.step hx108 (.inl (Nat.le_refl _))
                  refine st (y_build (bld67_1_2_3_4 _ _ _ _ _ _ _ _ _ _ _ _ _) rfl) ?_
                  refine sd (d_boxA rfl ?_)
                  intro bx w111 hbbx hs113 ho112 hbx
                  have hz114 := ho112.size
                  replace hF := hF.ext ho112
                  replace hE := hE.step ho112 (.inl (Nat.le_refl _))
                  replace hcut := hcut.step ho112 (.inl (Nat.le_refl _))
                  replace hp := hp.ext ho112
                  replace hc_ := hc_.ext ho112
                  replace hr := hr.ext ho112
                  replace hau := hau.ext ho112
                  refine st (asP rfl) ?_
                  refine rg_end ?_
                  exact n_then ⟨(bx, bp, br, bc, au, cu, lu, hu), _, rfl, same_lk rfl (same_rfl), ⟨rfl, trivial⟩, ⟨hcut, hbx, hp.wide (by omega), hr.wide (by (try dsimp only); omega), hc_.wide (by (try dsimp only); omega), hau.sl, by (try dsimp only); omega, by (try dsimp only); omega, by (try dsimp only); omega, by (try dsimp only); omega, by (try dsimp only); omega, by (try dsimp only); omega, by (try dsimp only); omega, by (try dsimp only); omega, by (try dsimp only); omega, rsep_mk (by (try dsimp only); omega) (by (try dsimp only); omega) (by (try dsimp only); omega) (by (try dsimp only); omega) (by (try dsimp only); omega) (by (try dsimp only); omega) (by (try dsimp only); omega) (by (try dsimp only); omega) (by (try dsimp only); omega)⟩⟩
                refine p_fork ?_ ?_
                ·
                  refine p_step rfl ?_
                  have hau := Ow.nil (E := 35) (sz := 3) (enc := encFk) (lo := w91.heap.size) (hi := 0) (w := w91) (fun _ => rfl)
                  have hrhau := hau.rng
                  refine td rfl (d_appN (xs := fl) hau sl22 infoz35 (by decide) rfl rfl rfl (rfl) ((hF.ext hx95)) (fun _ => rfl) (by simp; unfold maxLen; omega) (by simp; omega) (Nat.le_refl _) (Nat.zero_le _) ?_)
                  intro au cu w115 ho116 hau'
                  have hs117 := ho116.size
                  clear hau; have hau := hau'; clear hau'
                  replace ho116 : Ext _ _ := ho116
                  have hx120 := hx95.step ho116 (.inl (Nat.le_refl _))
                  have hz121 := ho116.size
                  replace hc_ := hc_.ext ho116
                  replace hp := hp.ext ho116
                  refine ⟨hx120, ?_⟩
                  simp only [List.nil_append] at hau ⊢
                  obtain ⟨lu, hu, hlu, hhu, hau⟩ := owNamed hau
                  refine t_end ?_
                  refine p_step rfl ?_
                  refine td rfl (d_make (m := m) (lo := w.heap.size) (enc := encI) (e0 := (0 : Int)) sl23 info3 (fun _ => rfl) rfl rfl rfl (by omega) (by unfold maxLen; omega) (by omega) ?_)
                  intro br w122 hbbr hs124 ho123 hr
                  have hx126 := hx120.step ho123 (.inl (Nat.le_refl _))
                  have hz127 := ho123.size
                  replace hau := hau.ext ho123
                  replace hc_ := hc_.ext ho123
                  replace hp := hp.ext ho123
                  refine ⟨hx126, ?_⟩
                  refine t_end ?_
                  refine p_done ?_
                  have hz128 := hx126.size
                  replace hF := hF.ext hx126
                  replace hE := hE.step hx126 (.inl (Nat.le_refl _))
                  replace hcut := hcut.step hx126 (.inl (Nat.le_refl _))
                  refine st (y_build (bld67_1_2_3_4 _ _ _ _ _ _ _ _ _ _ _ _ _) rfl) ?_
                  refine sd (d_boxA rfl ?_)
                  intro bx w129 hbbx hs131 ho130 hbx
                  have hz132 := ho130.size
                  replace hF := hF.ext ho130
                  replace hE := hE.step ho130 (.inl (Nat.le_refl _))
                  replace hcut := hcut.step ho130 (.inl (Nat.le_refl _))
                  replace hp := hp.ext ho130
                  replace hc_ := hc_.ext ho130
                  replace hau := hau.ext ho130
                  replace hr := hr.ext ho130
                  refine st (asP rfl) ?_
                  refine rg_end ?_
                  exact n_then ⟨(bx, bp, br, bc, au, cu, lu, hu), _, rfl, same_lk rfl (same_rfl), ⟨rfl, trivial⟩, ⟨hcut, hbx, hp.wide (by omega), hr.wide (by (try dsimp only); omega), hc_.wide (by (try dsimp only); omega), hau.sl, by (try dsimp only); omega, by (try dsimp only); omega, by (try dsimp only); omega, by (try dsimp only); omega, by (try dsimp only); omega, by (try dsimp only); omega, by (try dsimp only); omega, by (try dsimp only); omega, by (try dsimp only); omega, rsep_mk (by (try dsimp only); omega) (by (try dsimp only); omega) (by (try dsimp only); omega) (by (try dsimp only); omega) (by (try dsimp only); omega) (by (try dsimp only); omega) (by (try dsimp only); omega) (by (try dsimp only); omega) (by (try dsimp only); omega)⟩⟩
                exact p_last
              refine p_fork ?_ ?_
              ·
                refine p_step rfl ?_
                have hau := Ow.nil (E := 35) (sz := 3) (enc := encFk) (lo := w43.heap.size) (hi := 0) (w := w43) (fun _ => rfl)
                have hrhau := hau.rng
                refine td rfl (d_appN (xs := fl) hau sl22 infoz35 (by decide) rfl rfl rfl (rfl) ((hF.ext hx47)) (fun _ => rfl) (by simp; unfold maxLen; omega) (by simp; omega) (Nat.le_refl _) (Nat.zero_le _) ?_)
                intro au cu w133 ho134 hau'
                have hs135 := ho134.size
                clear hau; have hau := hau'; clear hau'
                replace ho134 : Ext _ _ := ho134
                have hx138 := hx47.step ho134 (.inl (Nat.le_refl _))
                have hz139 := ho134.size
                replace hp := hp.ext ho134
                refine ⟨hx138, ?_⟩
                simp only [List.nil_append] at hau ⊢
                obtain ⟨lu, hu, hlu, hhu, hau⟩ := owNamed hau
                refine t_end ?_
                refine p_fork ?_ ?_
                ·
                  refine p_step rfl ?_
                  refine td rfl (d_make (m := m) (lo := w.heap.size) (enc := encI) (e0 := (0 : Int)) sl23 info3 (fun _ => rfl) rfl rfl rfl (by omega) (by unfold maxLen; omega) (by omega) ?_)
                  intro br w140 hbbr hs142 ho141 hr
                  have hx144 := hx138.step ho141 (.inl (Nat.le_refl _))
                  have hz145 := ho141.size
                  replace hau := hau.ext ho141
                  replace hp := hp.ext ho141
                  refine ⟨hx144, ?_⟩
                  refine t_end ?_
                  refine p_step rfl ?_
                  refine td rfl (d_make (m := m) (lo := w.heap.size) (enc := encB) (e0 := false) sl65 info4 (fun _ => rfl) rfl rfl rfl (by omega) (by unfold maxLen; omega) (by omega) ?_)
                  intro bc w146 hbbc hs148 ho147 hc_
                  have hx150 := hx144.step ho147 (.inl (Nat.le_refl _))
                  have hz151 := ho147.size
                  replace hau := hau.ext ho147
                  replace hp := hp.ext ho147
                  replace hr := hr.ext ho147
                  refine ⟨hx150, ?_⟩
                  refine t_end ?_
                  refine p_done ?_
                  have hz152 := hx150.size
                  replace hF := hF.ext hx150
                  replace hE := hE.step hx150 (.inl (Nat.le_refl _))
                  replace hcut := hcut.step hx150 (.inl (Nat.le_refl _))
                  refine st (y_build (bld67_1_2_3_4 _ _ _ _ _ _ _ _ _ _ _ _ _) rfl) ?_
                  refine sd (d_boxA rfl ?_)
                  intro bx w153 hbbx hs155 ho154 hbx
                  have hz156 := ho154.size
                  replace hF := hF.ext ho154
                  replace hE := hE.step ho154 (.inl (Nat.le_refl _))
                  replace hcut := hcut.step ho154 (.inl (Nat.le_refl _))
                  replace hp := hp.ext ho154
                  replace hau := hau.ext ho154
                  replace hr := hr.ext ho154
                  replace hc_ := hc_.ext ho154
                  refine st (asP rfl) ?_
                  refine rg_end ?_
                  exact n_then ⟨(bx, bp, br, bc, au, cu, lu, hu), _, rfl, same_lk rfl (same_rfl), ⟨rfl, trivial⟩, ⟨hcut, hbx, hp.wide (by omega), hr.wide (by (try dsimp only); omega), hc_.wide (by (try dsimp only); omega), hau.sl, by (try dsimp only); omega, by (try dsimp only); omega, by (try dsimp only); omega, by (try dsimp only); omega, by (try dsimp only); omega, by (try dsimp only); omega, by (try dsimp only); omega, by (try dsimp only); omega, by (try dsimp only); omega, rsep_mk (by (try dsimp only); omega) (by (try dsimp only); omega) (by (try dsimp only); omega) (by (try dsimp only); omega) (by (try dsimp only); omega) (by (try dsimp only); omega) (by (try dsimp only); omega) (by (try dsimp only); omega) (by (try dsimp only); omega)⟩⟩
                refine p_fork ?_ ?_
                ·
                  refine p_step rfl ?_
                  refine td rfl (d_make (m := m) (lo := w.heap.size) (enc := encB) (e0 := false) sl65 info4 (fun _ => rfl) rfl rfl rfl (by omega) (by unfold maxLen; omega) (by omega) ?_)
                  intro bc w157 hbbc hs159 ho158 hc_
                  have hx161 := hx138.step ho158 (.inl (Nat.le_refl _))
                  have hz162 := ho158.size
                  replace hau := hau.ext ho158
                  replace hp := hp.ext ho158
                  refine ⟨hx161, ?_⟩
                  refine t_end ?_
                  refine p_step rfl ?_
                  refine td rfl (d_make (m := m) (lo := w.heap.size) (enc := encI) (e0 := (0 : Int)) sl23 info3 (fun _ => rfl) rfl rfl rfl (by omega) (by unfold maxLen; omega) (by omega) ?_)
                  intro br w163 hbbr hs165 ho164 hr
                  have hx167 := hx161.step ho164 (.inl (Nat.le_refl _))
                  have hz168 := ho164.size
                  replace hau := hau.ext ho164
                  replace hc_ := hc_.ext ho164
                  replace hp := hp.ext ho164
                  refine ⟨hx167, ?_⟩
                  refine t_end ?_
                  refine p_done ?_
                  have hz169 := hx167.size
                  replace hF := hF.ext hx167
                  replace hE := hE.step hx167 (.inl (Nat.le_refl _))
                  replace hcut := hcut.step hx167 (.inl (Nat.le_refl _))
                  refine st (y_build (bld67_1_2_3_4 _ _ _ _ _ _ _ _ _ _ _ _ _) rfl) ?_
                  refine sd (d_boxA rfl ?_)
                  intro bx w170 hbbx hs172 ho171 hbx
                  have hz173 := ho171.size
                  replace hF := hF.ext ho171
                  replace hE := hE.step ho171 (.inl (Nat.le_refl _))
                  replace hcut := hcut.step ho171 (.inl (Nat.le_refl _))
                  replace hp := hp.ext ho171
                  replace hau := hau.ext ho171
                  replace hc_ := hc_.ext ho171
                  replace hr := hr.ext ho171
                  refine st (asP rfl) ?_
                  refine rg_end ?_
                  exact n_then ⟨(bx, bp, br, bc, au, cu, lu, hu), _, rfl, same_lk rfl (same_rfl), ⟨rfl, trivial⟩, ⟨hcut, hbx, hp.wide (by omega), hr.wide (by (try dsimp only); omega), hc_.wide (by (try dsimp only); omega), hau.sl, by (try dsimp only); omega, by (try dsimp only); omega, by (try dsimp only); omega, by (try dsimp only); omega, by (try dsimp only); omega, by (try dsimp only); omega, by (try dsimp only); omega, by (try dsimp only); omega, by (try dsimp only); omega, rsep_mk (by (try dsimp only); omega) (by (try dsimp only); omega) (by (try dsimp only); omega) (by (try dsimp only); omega) (by (try dsimp only); omega) (by (try dsimp only); omega) (by (try dsimp only); omega) (by (try dsimp only); omega) (by (try dsimp only); omega)⟩⟩
                exact p_last
              exact p_last
            refine p_fork ?_ ?_
            ·
              refine p_step rfl ?_
              refine td rfl (d_make (m := m) (lo := w.heap.size) (enc := encI) (e0 := (0 : Int)) sl23 info3 (fun _ => rfl) rfl rfl rfl (by omega) (by unfold maxLen; omega) (by omega) ?_)
              intro br w174 hbbr hs176 ho175 hr
              have hx178 := hx42.step ho175 (.inl (Nat.le_refl _))
              have hz179 := ho175.size
              refine ⟨hx178, ?_⟩
              refine t_end ?_
              refine p_fork ?_ ?_
              ·
                refine p_step rfl ?_
                refine td rfl (d_make (m := m) (lo := w.heap.size) (enc := encI) (e0 := (0 : Int)) sl23 info3 (fun _ => rfl) rfl rfl rfl (by omega) (by unfold maxLen; omega) (by omega) ?_)
                intro bp w180 hbbp hs182 ho181 hp
                have hx184 := hx178.step ho181 (.inl (Nat.le_refl _))
                have hz185 := ho181.size
                replace hr := hr.ext ho181
                refine ⟨hx184, ?_⟩
                refine t_end ?_
                refine p_fork ?_ ?_
                ·
                  refine p_step rfl ?_
                  refine td rfl (d_make (m := m) (lo := w.heap.size) (enc := encB) (e0 := false) sl65 info4 (fun _ => rfl) rfl rfl rfl (by omega) (by unfold maxLen; omega) (by omega) ?_)
                  intro bc w186 hbbc hs188 ho187 hc_
                  have hx190 := hx184.step ho187 (.inl (Nat.le_refl _))
                  have hz191 := ho187.size
                  replace hp := hp.ext ho187
                  replace hr := hr.ext ho187
                  refine ⟨hx190, ?_⟩
                  refine t_end ?_
                  refine p_step rfl ?_
                  have hau := Ow.nil (E := 35) (sz := 3) (enc := encFk) (lo := w186.heap.size) (hi := 0) (w := w186) (fun _ => rfl)
                  have hrhau := hau.rng
                  refine td rfl (d_appN (xs := fl) hau sl22 infoz35 (by decide) rfl rfl rfl (rfl) ((hF.ext hx190)) (fun _ => rfl) (by simp; unfold maxLen; omega) (by simp; omega) (Nat.le_refl _) (Nat.zero_le _) ?_)
                  intro au cu w192 ho193 hau'
                  have hs194 := ho193.size
                  clear hau; have hau := hau'; clear hau'
                  replace ho193 : Ext _ _ := ho193
                  have hx197 := hx190.step ho193 (.inl (Nat.le_refl _))
                  have hz198 := ho193.size
                  replace hc_ := hc_.ext ho193
                  replace hp := hp.ext ho193
                  replace hr := hr.ext ho193
                  refine ⟨hx197, ?_⟩
                  simp only [List.nil_append] at hau ⊢
                  obtain ⟨lu, hu, hlu, hhu, hau⟩ := owNamed hau
                  refine t_end ?_
                  refine p_done ?_
                  have hz199 := hx197.size
                  replace hF := hF.ext hx197
                  replace hE := hE.step hx197 (.inl (Nat.le_refl _))
                  replace hcut := hcut.step hx197 (.inl (Nat.le_refl _))
                  refine st (y_build (bld67_1_2_3_4 _ _ _ _ _ _ _ _ _ _ _ _ _) rfl) ?_
                  refine sd (d_boxA rfl ?_)
                  intro bx w200 hbbx hs202 ho201 hbx
                  have hz203 := ho201.size
                  replace hF := hF.ext ho201
                  replace hE := hE.step ho201 (.inl (Nat.le_refl _))
                  replace hcut := hcut.step ho201 (.inl (Nat.le_refl _))
                  replace hr := hr.ext ho201
                  replace hp := hp.ext ho201
                  replace hc_ := hc_.ext ho201
                  replace hau := hau.ext ho201
                  refine st (asP rfl) ?_
                  refine rg_end ?_
                  exact n_then ⟨(bx, bp, br, bc, au, cu, lu, hu), _, rfl, same_lk rfl (same_rfl), ⟨rfl, trivial⟩, ⟨hcut, hbx, hp.wide (by omega), hr.wide (by (try dsimp only); omega), hc_.wide (by (try dsimp only); omega), hau.sl, by (try dsimp only); omega, by (try dsimp only); omega, by (try dsimp only); omega, by (try dsimp only); omega, by (try dsimp only); omega, by (try dsimp only); omega, by (try dsimp only); omega, by (try dsimp only); omega, by (try dsimp only); omega, rsep_mk (by (try dsimp only); omega) (by (try dsimp only); omega) (by (try dsimp only); omega) (by (try dsimp only); omega) (by (try dsimp only); omega) (by (try dsimp only); omega) (by (try dsimp only); omega) (by (try dsimp only); omega) (by (try dsimp only); omega)⟩⟩
                refine p_fork ?_ ?_
                ·
                  refine p_step rfl ?_
                  have hau := Ow.nil (E := 35) (sz := 3) (enc := encFk) (lo := w180.heap.size) (hi := 0) (w := w180) (fun _ => rfl)
                  have hrhau := hau.rng
                  refine td rfl (d_appN (xs := fl) hau sl22 infoz35 (by decide) rfl rfl rfl (rfl) ((hF.ext hx184)) (fun _ => rfl) (by simp; unfold maxLen; omega) (by simp; omega) (Nat.le_refl _) (Nat.zero_le _) ?_)
                  intro au cu w204 ho205 hau'
                  have hs206 := ho205.size
                  clear hau; have hau := hau'; clear hau'
                  replace ho205 : Ext _ _ := ho205
                  have hx209 := hx184.step ho205 (.inl (Nat.le_refl _))
                  have hz210 := ho205.size
                  replace hp := hp.ext ho205
                  replace hr := hr.ext ho205
                  refine ⟨hx209, ?_⟩
                  simp only [List.nil_append] at hau ⊢
                  obtain ⟨lu, hu, hlu, hhu, hau⟩ := owNamed hau
                  refine t_end ?_
                  refine p_step rfl ?_
                  refine td rfl (d_make (m := m) (lo := w.heap.size) (enc := encB) (e0 := false) sl65 info4 (fun _ => rfl) rfl rfl rfl (by omega) (by unfold maxLen; omega) (by omega) ?_)
                  intro bc w211 hbbc hs213 ho212 hc_
                  have hx215 := hx209.step ho212 (.inl (Nat.le_refl _))
                  have hz216 := ho212.size
                  replace hau := hau.ext ho212
                  replace hp := hp.ext ho212
                  replace hr := hr.ext ho212
                  refine ⟨hx215, ?_⟩
                  refine t_end ?_
                  refine p_done ?_
                  have hz217 := hx215.size
                  replace hF := hF.ext hx215
                  replace hE := hE.step hx215 (.inl (Nat.le_refl _))
                  replace hcut := hcut.step hx215 (.inl (Nat.le_refl _))
                  refine st (y_build (bld67_1_2_3_4 _ _ _ _ _ _ _ _ _ _ _ _ _) rfl) ?_
                  refine sd (d_boxA rfl ?_)
                  intro bx w218 hbbx hs220 ho219 hbx
                  have hz221 := ho219.size
                  replace hF := hF.ext ho219
                  replace hE := hE.step ho219 (.inl (Nat.le_refl _))
                  replace hcut := hcut.step ho219 (.inl (Nat.le_refl _))
                  replace hr := hr.ext ho219
                  replace hp := hp.ext ho219
                  replace hau := hau.ext ho219
                  replace hc_ := hc_.ext ho219
                  refine st (asP rfl) ?_
                  refine rg_end ?_
                  exact n_then ⟨(bx, bp, br, bc, au, cu, lu, hu), _, rfl, same_lk rfl (same_rfl), ⟨rfl, trivial⟩, ⟨hcut, hbx, hp.wide (by omega), hr.wide (by (try dsimp only); omega), hc_.wide (by (try dsimp only); omega), hau.sl, by (try dsimp only); omega, by (try dsimp only); omega, by (try dsimp only); omega, by (try dsimp only); omega, by (try dsimp only); omega, by (try dsimp only); omega, by (try dsimp only); omega, by (try dsimp only); omega, by (try dsimp only); omega, rsep_mk (by (try dsimp only); omega) (by (try dsimp only); omega) (by (try dsimp only); omega) (by (try dsimp only); omega) (by (try dsimp only); omega) (by (try dsimp only); omega) (by (try dsimp only); omega) (by (try dsimp only); omega) (by (try dsimp only); omega)⟩⟩
                exact p_last
              refine p_fork ?_ ?_
              ·
                refine p_step rfl ?_
                refine td rfl (d_make (m := m) (lo := w.heap.size) (enc := encB) (e0 := false) sl65 info4 (fun _ => rfl) rfl rfl rfl (by omega) (by unfold maxLen; omega) (by omega) ?_)
                intro bc w222 hbbc hs224 ho223 hc_
                have hx226 := hx178.step ho223 (.inl (Nat.le_refl _))
                have hz227 := ho223.size
                replace hr := hr.ext ho223
                refine ⟨hx226, ?_⟩
                refine t_end ?_
                refine p_fork ?_ ?_
                ·
                  refine p_step rfl ?_
                  refine td rfl (d_make (m := m) (lo := w.heap.size) (enc := encI) (e0 := (0 : Int)) sl23 info3 (fun _ => rfl) rfl rfl rfl (by omega) (by unfold maxLen; omega) (by omega) ?_)
                  intro bp w228 hbbp hs230 ho229 hp
                  have hx232 := hx226.step ho229 (.inl (Nat.le_refl _))
                  have hz233 := ho229.size
                  replace hc_ := hc_.ext ho229
                  replace hr := hr.ext ho229
                  refine ⟨hx232, ?_⟩
                  refine t_end ?_
                  refine p_step rfl ?_
                  have hau := Ow.nil (E := 35) (sz := 3) (enc := encFk) (lo := w228.heap.size) (hi := 0) (w := w228) (fun _ => rfl)
                  have hrhau := hau.rng
                  refine td rfl (d_appN (xs := fl) hau sl22 infoz35 (by decide) rfl rfl rfl (rfl) ((hF.ext hx232)) (fun _ => rfl) (by simp; unfold maxLen; omega) (by simp; omega) (Nat.le_refl _) (Nat.zero_le _) ?_)
                  intro au cu w234 ho235 hau'
                  have hs236 := ho235.size
                  clear hau; have hau := hau'; clear hau'
                  replace ho235 : Ext _ _ := ho235
                  have hx239 := hx232.step ho235 (.inl (Nat.le_refl _))
                  have hz240 := ho235.size
                  replace hc_ := hc_.ext ho235
                  replace hp := hp.ext ho235
                  replace hr := hr.ext ho235
                  refine ⟨hx239, ?_⟩
                  simp only [List.nil_append] at hau ⊢
                  obtain ⟨lu, hu, hlu, hhu, hau⟩ := owNamed hau
                  refine t_end ?_
                  refine p_done ?_
                  have hz241 := hx239.size
                  replace hF := hF.ext hx239
                  replace hE := hE.step hx239 (.inl (Nat.le_refl _))
                  replace hcut := hcut.step hx239 (.inl (Nat.le_refl _))
                  refine st (y_build (bld67_1_2_3_4 _ _ _ _ _ _ _ _ _ _ _ _ _) rfl) ?_
                  refine sd (d_boxA rfl ?_)
                  intro bx w242 hbbx hs244 ho243 hbx
                  have hz245 := ho243.size
                  replace hF := hF.ext ho243
                  replace hE := hE.step ho243 (.inl (Nat.le_refl _))
                  replace hcut := hcut.step ho243 (.inl (Nat.le_refl _))
                  replace hr := hr.ext ho243
                  replace hc_ := hc_.ext ho243
                  replace hp := hp.ext ho243
                  replace hau := hau.ext ho243
                  refine st (asP rfl) ?_
                  refine rg_end ?_
                  exact n_then ⟨(bx, bp, br, bc, au, cu, lu, hu), _, rfl, same_lk rfl (same_rfl), ⟨rfl, trivial⟩, ⟨hcut, hbx, hp.wide (by omega), hr.wide (by (try dsimp only); omega), hc_.wide (by (try dsimp only); omega), hau.sl, by (try dsimp only); omega, by (try dsimp only); omega, by (try dsimp only); omega, by (try dsimp only); omega, by (try dsimp only); omega, by (try dsimp only); omega, by (try dsimp only); omega, by (try dsimp only); omega, by (try dsimp only); omega, rsep_mk (by (try dsimp only); omega) (by (try dsimp only); omega) (by (try dsimp only); omega) (by (try dsimp only); omega) (by (try dsimp only); omega) (by (try dsimp only); omega) (by (try dsimp only); omega) (by (try dsimp only); omega) (by (try dsimp only); omega)⟩⟩
                refine p_fork ?_ ?_
                ·
                  refine p_step rfl ?_
                  have hau := Ow.nil (E := 35) (sz := 3) (enc := encFk) (lo := w222.heap.size) (hi := 0) (w := w222) (fun _ => rfl)
                  have hrhau := hau.rng
                  refine td rfl (d_appN (xs := fl) hau sl22 infoz35 (by decide) rfl rfl rfl (rfl) ((hF.ext hx226)) (fun _ => rfl) (by simp; unfold maxLen; omega) (by simp; omega) (Nat.le_refl _) (Nat.zero_le _) ?_)
                  intro au cu w246 ho247 hau'
                  have hs248 := ho247.size
                  clear hau; have hau := hau'; clear hau'
                  replace ho247 : Ext _ _ := ho247
                  have hx251 := hx226.step ho247 (.inl (Nat.le_refl _))
                  have hz252 := ho247.size
                  replace hc_ := hc_.ext ho247
                  replace hr := hr.ext ho247
                  refine ⟨hx251, ?_⟩
                  simp only [List.nil_append] at hau ⊢
                  obtain ⟨lu, hu, hlu, hhu, hau⟩ := owNamed hau
                  refine t_end ?_
                  refine p_step rfl ?_
                  refine td rfl (d_make (m := m) (lo := w.heap.size) (enc := encI) (e0 := (0 : Int)) sl23 info3 (fun _ => rfl) rfl rfl rfl (by omega) (by unfold maxLen; omega) (by omega) ?_)
                  intro bp w253 hbbp hs255 ho254 hp
                  have hx257 := hx251.step ho254 (.inl (Nat.le_refl _))
                  have hz258 := ho254.size
                  replace hau := hau.ext ho254
                  replace hc_ := hc_.ext ho254
                  replace hr := hr.ext ho254
                  refine ⟨hx257, ?_⟩
                  refine t_end ?_
                  refine p_done ?_
                  have hz259 := hx257.size
                  replace hF := hF.ext hx257
                  replace hE := hE.step hx257 (.inl (Nat.le_refl _))
                  replace hcut := hcut.step hx257 (.inl (Nat.le_refl _))
                  refine st (y_build (bld67_1_2_3_4 _ _ _ _ _ _ _ _ _ _ _ _ _) rfl) ?_
                  refine sd (d_boxA rfl ?_)
                  intro bx w260 hbbx hs262 ho261 hbx
                  have hz263 := ho261.size
                  replace hF := hF.ext ho261
                  replace hE := hE.step ho261 (.inl (Nat.le_refl _))
                  replace hcut := hcut.step ho261 (.inl (Nat.le_refl _))
                  replace hr := hr.ext ho261
                  replace hc_ := hc_.ext ho261
                  replace hau := hau.ext ho261
                  replace hp := hp.ext ho261
                  refine st (asP rfl) ?_
                  refine rg_end ?_
                  exact n_then ⟨(bx, bp, br, bc, au, cu, lu, hu), _, rfl, same_lk rfl (same_rfl), ⟨rfl, trivial⟩, ⟨hcut, hbx, hp.wide (by omega), hr.wide (by (try dsimp only); omega), hc_.wide (by (try dsimp only); omega), hau.sl, by (try dsimp only); omega, by (try dsimp only); omega, by (try dsimp only); omega, by (try dsimp only); omega, by (try dsimp only); omega, by (try dsimp only); omega, by (try dsimp only); omega, by (try dsimp only); omega, by (try dsimp only); omega, rsep_mk (by (try dsimp only); omega) (by (try dsimp only); omega) (by (try dsimp only); omega) (by (try dsimp only); omega) (by (try dsimp only); omega) (by (try dsimp only); omega) (by (try dsimp only); omega) (by (try dsimp only); omega) (by (try dsimp only); omega)⟩⟩
                exact p_last
              refine p_fork ?_ ?_
              ·
                refine p_step rfl ?_
                have hau := Ow.nil (E := 35) (sz := 3) (enc := encFk) (lo := w174.heap.size) (hi := 0) (w := w174) (fun _ => rfl)
                have hrhau := hau.rng
                refine td rfl (d_appN (xs := fl) hau sl22 infoz35 (by decide) rfl rfl rfl (rfl) ((hF.ext hx178)) (fun _ => rfl) (by simp; unfold maxLen; omega) (by simp; omega) (Nat.le_refl _) (Nat.zero_le _) ?_)
                intro au cu w264 ho265 hau'
                have hs266 := ho265.size
                clear hau; have hau := hau'; clear hau'
                replace ho265 : Ext _ _ := ho265
                have hx269 := hx178.step ho265 (.inl (Nat.le_refl _))
                have hz270 := ho265.size
                replace hr := hr.ext ho265
                refine ⟨hx269, ?_⟩
                simp only [List.nil_append] at hau ⊢
                obtain ⟨lu, hu, hlu, hhu, hau⟩ := owNamed hau
                refine t_end ?_
                refine p_fork ?_ ?_
                ·
                  refine p_step rfl ?_
                  refine td rfl (d_make (m := m) (lo := w.heap.size) (enc := encI) (e0 := (0 : Int)) sl23 info3 (fun _ => rfl) rfl rfl rfl (by omega) (by unfold maxLen; omega) (by omega) ?_)
                  intro bp w271 hbbp hs273 ho272 hp
                  have hx275 := hx269.step ho272 (.inl (Nat.le_refl _))
                  have hz276 := ho272.size
                  replace hau := hau.ext ho272
                  replace hr := hr.ext ho272
                  refine ⟨hx275, ?_⟩
                  refine t_end ?_
                  refine p_step rfl ?_
                  refine td rfl (d_make (m := m) (lo := w.heap.size) (enc := encB) (e0 := false) sl65 info4 (fun _ => rfl) rfl rfl rfl (by omega) (by unfold maxLen; omega) (by omega) ?_)
                  intro bc w277 hbbc hs279 ho278 hc_
                  have hx281 := hx275.step ho278 (.inl (Nat.le_refl _))
                  have hz282 := ho278.size
                  replace hau := hau.ext ho278
                  replace hp := hp.ext ho278
                  replace hr := hr.ext ho278
                  refine ⟨hx281, ?_⟩
                  refine t_end ?_
                  refine p_done ?_
                  have hz283 := hx281.size
                  replace hF := hF.ext hx281
                  replace hE := hE.step hx281 (.inl (Nat.le_refl _))
                  replace hcut := hcut.step hx281 (.inl (Nat.le_refl _))
                  refine st (y_build (bld67_1_2_3_4 _ _ _ _ _ _ _ _ _ _ _ _ _) rfl) ?_
                  refine sd (d_boxA rfl ?_)
                  intro bx w284 hbbx hs286 ho285 hbx
                  have hz287 := ho285.size
                  replace hF := hF.ext ho285
                  replace hE := hE.step ho285 (.inl (Nat.le_refl _))
                  replace hcut := hcut.step ho285 (.inl (Nat.le_refl _))
                  replace hr := hr.ext ho285
                  replace hau := hau.ext ho285
                  replace hp := hp.ext ho285
                  replace hc_ := hc_.ext ho285
                  refine st (asP rfl) ?_
                  refine rg_end ?_
                  exact n_then ⟨(bx, bp, br, bc, au, cu, lu, hu), _, rfl, same_lk rfl (same_rfl), ⟨rfl, trivial⟩, ⟨hcut, hbx, hp.wide (by omega), hr.wide (by (try dsimp only); omega), hc_.wide (by (try dsimp only); omega), hau.sl, by (try dsimp only); omega, by (try dsimp only); omega, by (try dsimp only); omega, by (try dsimp only); omega, by (try dsimp only); omega, by (try dsimp only); omega, by (try dsimp only); omega, by (try dsimp only); omega, by (try dsimp only); omega, rsep_mk (by (try dsimp only); omega) (by (try dsimp only); omega) (by (try dsimp only); omega) (by (try dsimp only); omega) (by (try dsimp only); omega) (by (try dsimp only); omega) (by (try dsimp only); omega) (by (try dsimp only); omega) (by (try dsimp only); omega)⟩⟩
                refine p_fork ?_ ?_
                ·
                  refine p_step rfl ?_
                  refine td rfl (d_make (m := m) (lo := w.heap.size) (enc := encB) (e0 := false) sl65 info4 (fun _ => rfl) rfl rfl rfl (by omega) (by unfold maxLen; omega) (by omega) ?_)
                  intro bc w288 hbbc hs290 ho289 hc_
                  have hx292 := hx269.step ho289 (.inl (Nat.le_refl _))
                  have hz293 := ho289.size
                  replace hau := hau.ext ho289
                  replace hr := hr.ext ho289
                  refine ⟨hx292, ?_⟩
                  refine t_end ?_
                  refine p_step rfl ?_
                  refine td rfl (d_make (m := m) (lo := w.heap.size) (enc := encI) (e0 := (0 : Int)) sl23 info3 (fun _ => rfl) rfl rfl rfl (by omega) (by unfold maxLen; omega) (by omega) ?_)
                  intro bp w294 hbbp hs296 ho295 hp
                  have hx298 := hx292.step ho295 (.inl (Nat.le_refl _))
                  have hz299 := ho295.size
                  replace hau := hau.ext ho295
                  replace hc_ := hc_.ext ho295
                  replace hr := hr.ext ho295
                  refine ⟨hx298, ?_⟩
                  refine t_end ?_
                  refine p_done ?_
                  have hz300 := hx298.size
                  replace hF := hF.ext hx298
                  replace hE := hE.step hx298 (.inl (Nat.le_refl _))
                  replace hcut := hcut.step hx298 (.inl (Nat.le_refl _))
                  refine st (y_build (bld67_1_2_3_4 _ _ _ _ _ _ _ _ _ _ _ _ _) rfl) ?_
                  refine sd (d_boxA rfl ?_)
                  intro bx w301 hbbx hs303 ho302 hbx
                  have hz304 := ho302.size
                  replace hF := hF.ext ho302
                  replace hE := hE.step ho302 (.inl (Nat.le_refl _))
                  replace hcut := hcut.step ho302 (.inl (Nat.le_refl _))
                  replace hr := hr.ext ho302
                  replace hau := hau.ext ho302
                  replace hc_ := hc_.ext ho302
                  replace hp := hp.ext ho302
                  refine st (asP rfl) ?_
                  refine rg_end ?_
                  exact n_then ⟨(bx, bp, br, bc, au, cu, lu, hu), _, rfl, same_lk rfl (same_rfl), ⟨rfl, trivial⟩, ⟨hcut, hbx, hp.wide (by omega), hr.wide (by (try dsimp only); omega), hc_.wide (by (try dsimp only); omega), hau.sl, by (try dsimp only); omega, by (try dsimp only); omega, by (try dsimp only); omega, by (try dsimp only); omega, by (try dsimp only); omega, by (try dsimp only); omega, by (try dsimp only); omega, by (try dsimp only); omega, by (try dsimp only); omega, rsep_mk (by (try dsimp only); omega) (by (try dsimp only); omega) (by (try dsimp only); omega) (by (try dsimp only); omega) (by (try dsimp only); omega) (by (try dsimp only); omega) (by (try dsimp only); omega) (by (try dsimp only); omega) (by (try dsimp only); omega)⟩⟩
                exact p_last
              exact p_last
            refine p_fork ?_ ?_
            ·
              refine p_step rfl ?_
              refine td rfl (d_make (m := m) (lo := w.heap.size) (enc := encB) (e0 := false) sl65 info4 (fun _ => rfl) rfl rfl rfl (by omega) (by unfold maxLen; omega) (by omega) ?_)
              intro bc w305 hbbc hs307 ho306 hc_
              have hx309 := hx42.step ho306 (.inl (Nat.le_refl _))
              have hz310 := ho306.size
              refine ⟨hx309, ?_⟩
              refine t_end ?_
              refine p_fork ?_ ?_
              ·
                refine p_step rfl ?_
                refine td rfl (d_make (m := m) (lo := w.heap.size) (enc := encI) (e0 := (0 : Int)) sl23 info3 (fun _ => rfl) rfl rfl rfl (by omega) (by unfold maxLen; omega) (by omega) ?_)
                intro bp w311 hbbp hs313 ho312 hp
                have hx315 := hx309.step ho312 (.inl (Nat.le_refl _))
                have hz316 := ho312.size
                replace hc_ := hc_.ext ho312
                refine ⟨hx315, ?_⟩
                refine t_end ?_
                refine p_fork ?_ ?_
                ·
                  refine p_step rfl ?_
                  refine td rfl (d_make (m := m) (lo := w.heap.size) (enc := encI) (e0 := (0 : Int)) sl23 info3 (fun _ => rfl) rfl rfl rfl (by omega) (by unfold maxLen; omega) (by omega) ?_)
                  intro br w317 hbbr hs319 ho318 hr
                  have hx321 := hx315.step ho318 (.inl (Nat.le_refl _))
                  have hz322 := ho318.size
                  replace hc_ := hc_.ext ho318
                  replace hp := hp.ext ho318
                  refine ⟨hx321, ?_⟩
                  refine t_end ?_
                  refine p_step rfl ?_
                  have hau := Ow.nil (E := 35) (sz := 3) (enc := encFk) (lo := w317.heap.size) (hi := 0) (w := w317) (fun _ => rfl)
                  have hrhau := hau.rng
                  refine td rfl (d_appN (xs := fl) hau sl22 infoz35 (by decide) rfl rfl rfl (rfl) ((hF.ext hx321)) (fun _ => rfl) (by simp; unfold maxLen; omega) (by simp; omega) (Nat.le_refl _) (Nat.zero_le _) ?_)
                  intro au cu w323 ho324 hau'
                  have hs325 := ho324.size
                  clear hau; have hau := hau'; clear hau'
                  replace ho324 : Ext _ _ := ho324
                  have hx328 := hx321.step ho324 (.inl (Nat.le_refl _))
                  have hz329 := ho324.size
                  replace hc_ := hc_.ext ho324
                  replace hp := hp.ext ho324
                  replace hr := hr.ext ho324
                  refine ⟨hx328, ?_⟩
                  simp only [List.nil_append] at hau ⊢
                  obtain ⟨lu, hu, hlu, hhu, hau⟩ := owNamed hau
                  refine t_end ?_
                  refine p_done ?_
                  have hz330 := hx328.size
                  replace hF := hF.ext hx328
                  replace hE := hE.step hx328 (.inl (Nat.le_refl _))
                  replace hcut := hcut.step hx328 (.inl (Nat.le_refl _))
                  refine st (y_build (bld67_1_2_3_4 _ _ _ _ _ _ _ _ _ _ _ _ _) rfl) ?_
                  refine sd (d_boxA rfl ?_)
                  intro bx w331 hbbx hs333 ho332 hbx
                  have hz334 := ho332.size
                  replace hF := hF.ext ho332
                  replace hE := hE.step ho332 (.inl (Nat.le_refl _))
                  replace hcut := hcut.step ho332 (.inl (Nat.le_refl _))
                  replace hc_ := hc_.ext ho332
                  replace hp := hp.ext ho332
                  replace hr := hr.ext ho332
                  replace hau := hau.ext ho332
                  refine st (asP rfl) ?_
                  refine rg_end ?_
                  exact n_then ⟨(bx, bp, br, bc, au, cu, lu, hu), _, rfl, same_lk rfl (same_rfl), ⟨rfl, trivial⟩, ⟨hcut, hbx, hp.wide (by omega), hr.wide (by (try dsimp only); omega), hc_.wide (by (try dsimp only); omega), hau.sl, by (try dsimp only); omega, by (try dsimp only); omega, by (try dsimp only); omega, by (try dsimp only); omega, by (try dsimp only); omega, by (try dsimp only); omega, by (try dsimp only); omega, by (try dsimp only); omega, by (try dsimp only); omega, rsep_mk (by (try dsimp only); omega) (by (try dsimp only); omega) (by (try dsimp only); omega) (by (try dsimp only); omega) (by (try dsimp only); omega) (by (try dsimp only); omega) (by (try dsimp only); omega) (by (try dsimp only); omega) (by (try dsimp only); omega)⟩⟩
                refine p_fork ?_ ?_
                ·
                  refine p_step rfl ?_
                  have hau := Ow.nil (E := 35) (sz := 3) (enc := encFk) (lo := w311.heap.size) (hi := 0) (w := w311) (fun _ => rfl)
                  have hrhau := hau.rng
                  refine td rfl (d_appN (xs := fl) hau sl22 infoz35 (by decide) rfl rfl rfl (rfl) ((hF.ext hx315)) (fun _ => rfl) (by simp; unfold maxLen; omega) (by simp; omega) (Nat.le_refl _) (Nat.zero_le _) ?_)
                  intro au cu w335 ho336 hau'
                  have hs337 := ho336.size
                  clear hau; have hau := hau'; clear hau'
                  replace ho336 : Ext _ _ := ho336
                  have hx340 := hx315.step ho336 (.inl (Nat.le_refl _))
                  have hz341 := ho336.size
                  replace hc_ := hc_.ext ho336
                  replace hp := hp.ext ho336
                  refine ⟨hx340, ?_⟩
                  simp only [List.nil_append] at hau ⊢
                  obtain ⟨lu, hu, hlu, hhu, hau⟩ := owNamed hau
                  refine t_end ?_
                  refine p_step rfl ?_
                  refine td rfl (d_make (m := m) (lo := w.heap.size) (enc := encI) (e0 := (0 : Int)) sl23 info3 (fun _ => rfl) rfl rfl rfl (by omega) (by unfold maxLen; omega) (by omega) ?_)
                  intro br w342 hbbr hs344 ho343 hr
                  have hx346 := hx340.step ho343 (.inl (Nat.le_refl _))
                  have hz347 := ho343.size
                  replace hau := hau.ext ho343
                  replace hc_ := hc_.ext ho343
                  replace hp := hp.ext ho343
                  refine ⟨hx346, ?_⟩
                  refine t_end ?_
                  refine p_done ?_
                  have hz348 := hx346.size
                  replace hF := hF.ext hx346
                  replace hE := hE.step hx346 (.inl (Nat.le_refl _))
                  replace hcut := hcut.step hx346 (.inl (Nat.le_refl _))
                  refine st (y_build (bld67_1_2_3_4 _ _ _ _ _ _ _ _ _ _ _ _ _) rfl) ?_
                  refine sd (d_boxA rfl ?_)
                  intro bx w349 hbbx hs351 ho350 hbx
                  have hz352 := ho350.size
                  replace hF := hF.ext ho350
                  replace hE := hE.step ho350 (.inl (Nat.le_refl _))
                  replace hcut := hcut.step ho350 (.inl (Nat.le_refl _))
                  replace hc_ := hc_.ext ho350
                  replace hp := hp.ext ho350
                  replace hau := hau.ext ho350
                  replace hr := hr.ext ho350
                  refine st (asP rfl) ?_
                  refine rg_end ?_
                  exact n_then ⟨(bx, bp, br, bc, au, cu, lu, hu), _, rfl, same_lk rfl (same_rfl), ⟨rfl, trivial⟩, ⟨hcut, hbx, hp.wide (by omega), hr.wide (by (try dsimp only); omega), hc_.wide (by (try dsimp only); omega), hau.sl, by (try dsimp only); omega, by (try dsimp only); omega, by (try dsimp only); omega, by (try dsimp only); omega, by (try dsimp only); omega, by (try dsimp only); omega, by (try dsimp only); omega, by (try dsimp only); omega, by (try dsimp only); omega, rsep_mk (by (try dsimp only); omega) (by (try dsimp only); omega) (by (try dsimp only); omega) (by (try dsimp only); omega) (by (try dsimp only); omega) (by (try dsimp only); omega) (by (try dsimp only); omega) (by (try dsimp only); omega) (by (try dsimp only); omega)⟩⟩
                exact p_last
              refine p_fork ?_ ?_
              ·
                refine p_step rfl ?_
                refine td rfl (d_make (m := m) (lo := w.heap.size) (enc := encI) (e0 := (0 : Int)) sl23 info3 (fun _ => rfl) rfl rfl rfl (by omega) (by unfold maxLen; omega) (by omega) ?_)
                intro br w353 hbbr hs355 ho354 hr
                have hx357 := hx309.step ho354 (.inl (Nat.le_refl _))
                have hz358 := ho354.size
                replace hc_ := hc_.ext ho354
                refine ⟨hx357, ?_⟩
                refine t_end ?_
                refine p_fork ?_ ?_
                ·
                  refine p_step rfl ?_
                  refine td rfl (d_make (m := m) (lo := w.heap.size) (enc := encI) (e0 := (0 : Int)) sl23 info3 (fun _ => rfl) rfl rfl rfl (by omega) (by unfold maxLen; omega) (by omega) ?_)
                  intro bp w359 hbbp hs361 ho360 hp
                  have hx363 := hx357.step ho360 (.inl (Nat.le_refl _))
                  have hz364 := ho360.size
                  replace hc_ := hc_.ext ho360
                  replace hr := hr.ext ho360
                  refine ⟨hx363, ?_⟩
                  refine t_end ?_
                  refine p_step rfl ?_
                  have hau := Ow.nil (E := 35) (sz := 3) (enc := encFk) (lo := w359.heap.size) (hi := 0) (w := w359) (fun _ => rfl)
                  have hrhau := hau.rng
                  refine td rfl (d_appN (xs := fl) hau sl22 infoz35 (by decide) rfl rfl rfl (rfl) ((hF.ext hx363)) (fun _ => rfl) (by simp; unfold maxLen; omega) (by simp; omega) (Nat.le_refl _) (Nat.zero_le _) ?_)
                  intro au cu w365 ho366 hau'
                  have hs367 := ho366.size
                  clear hau; have hau := hau'; clear hau'
                  replace ho366 : Ext _ _ := ho366
                  have hx370 := hx363.step ho366 (.inl (Nat.le_refl _))
                  have hz371 := ho366.size
                  replace hc_ := hc_.ext ho366
                  replace hp := hp.ext ho366
                  replace hr := hr.ext ho366
                  refine ⟨hx370, ?_⟩
                  simp only [List.nil_append] at hau ⊢
                  obtain ⟨lu, hu, hlu, hhu, hau⟩ := owNamed hau
                  refine t_end ?_
                  refine p_done ?_
                  have hz372 := hx370.size
                  replace hF := hF.ext hx370
                  replace hE := hE.step hx370 (.inl (Nat.le_refl _))
                  replace hcut := hcut.step hx370 (.inl (Nat.le_refl _))
                  refine st (y_build (bld67_1_2_3_4 _ _ _ _ _ _ _ _ _ _ _ _ _) rfl) ?_
                  refine sd (d_boxA rfl ?_)
                  intro bx w373 hbbx hs375 ho374 hbx
                  have hz376 := ho374.size
                  replace hF := hF.ext ho374
                  replace hE := hE.step ho374 (.inl (Nat.le_refl _))
                  replace hcut := hcut.step ho374 (.inl (Nat.le_refl _))
                  replace hc_ := hc_.ext ho374
                  replace hr := hr.ext ho374
                  replace hp := hp.ext ho374
                  replace hau := hau.ext ho374
                  refine st (asP rfl) ?_
                  refine rg_end ?_
                  exact n_then ⟨(bx, bp, br, bc, au, cu, lu, hu), _, rfl, same_lk rfl (same_rfl), ⟨rfl, trivial⟩, ⟨hcut, hbx, hp.wide (by omega), hr.wide (by (try dsimp only); omega), hc_.wide (by (try dsimp only); omega), hau.sl, by (try dsimp only); omega, by (try dsimp only); omega, by (try dsimp only); omega, by (try dsimp only); omega, by (try dsimp only); omega, by (try dsimp only); omega, by (try dsimp only); omega, by (try dsimp only); omega, by (try dsimp only); omega, rsep_mk (by (try dsimp only); omega) (by (try dsimp only); omega) (by (try dsimp only); omega) (by (try dsimp only); omega) (by (try dsimp only); omega) (by (try dsimp only); omega) (by (try dsimp only); omega) (by (try dsimp only); omega) (by (try dsimp only); omega)⟩⟩
                refine p_fork ?_ ?_
                ·
                  refine p_step rfl ?_
                  have hau := Ow.nil (E := 35) (sz := 3) (enc := encFk) (lo := w353.heap.size) (hi := 0) (w := w353) (fun _ => rfl)
                  have hrhau := hau.rng
                  refine td rfl (d_appN (xs := fl) hau sl22 infoz35 (by decide) rfl rfl rfl (rfl) ((hF.ext hx357)) (fun _ => rfl) (by simp; unfold maxLen; omega) (by simp; omega) (Nat.le_refl _) (Nat.zero_le _) ?_)
                  intro au cu w377 ho378 hau'
                  have hs379 := ho378.size
                  clear hau; have hau := hau'; clear hau'
                  replace ho378 : Ext _ _ := ho378
                  have hx382 := hx357.step ho378 (.inl (Nat.le_refl _))
                  have hz383 := ho378.size
                  replace hc_ := hc_.ext ho378
                  replace hr := hr.ext ho378
                  refine ⟨hx382, ?_⟩
                  simp only [List.nil_append] at hau ⊢
                  obtain ⟨lu, hu, hlu, hhu, hau⟩ := owNamed hau
                  refine t_end ?_
                  refine p_step rfl ?_
                  refine td rfl (d_make (m := m) (lo := w.heap.size) (enc := encI) (e0 := (0 : Int)) sl23 info3 (fun _ => rfl) rfl rfl rfl (by omega) (by unfold maxLen; omega) (by omega) ?_)
                  intro bp w384 hbbp hs386 ho385 hp
                  have hx388 := hx382.step ho385 (.inl (Nat.le_refl _))
                  have hz389 := ho385.size
                  replace hau := hau.ext ho385
                  replace hc_ := hc_.ext ho385
                  replace hr := hr.ext ho385
                  refine ⟨hx388, ?_⟩
                  refine t_end ?_
                  refine p_done ?_
                  have hz390 := hx388.size
                  replace hF := hF.ext hx388
                  replace hE := hE.step hx388 (.inl (Nat.le_refl _))
                  replace hcut := hcut.step hx388 (.inl (Nat.le_refl _))
                  refine st (y_build (bld67_1_2_3_4 _ _ _ _ _ _ _ _ _ _ _ _ _) rfl) ?_
                  refine sd (d_boxA rfl ?_)
                  intro bx w391 hbbx hs393 ho392 hbx
                  have hz394 := ho392.size
                  replace hF := hF.ext ho392
                  replace hE := hE.step ho392 (.inl (Nat.le_refl _))
                  replace hcut := hcut.step ho392 (.inl (Nat.le_refl _))
                  replace hc_ := hc_.ext ho392
                  replace hr := hr.ext ho392
                  replace hau := hau.ext ho392
                  replace hp := hp.ext ho392
                  refine st (asP rfl) ?_
                  refine rg_end ?_
                  exact n_then ⟨(bx, bp, br, bc, au, cu, lu, hu), _, rfl, same_lk rfl (same_rfl), ⟨rfl, trivial⟩, ⟨hcut, hbx, hp.wide (by omega), hr.wide (by (try dsimp only); omega), hc_.wide (by (try dsimp only); omega), hau.sl, by (try dsimp only); omega, by (try dsimp only); omega, by (try dsimp only); omega, by (try dsimp only); omega, by (try dsimp only); omega, by (try dsimp only); omega, by (try dsimp only); omega, by (try dsimp only); omega, by (try dsimp only); omega, rsep_mk (by (try dsimp only); omega) (by (try dsimp only); omega) (by (try dsimp only); omega) (by (try dsimp only); omega) (by (try dsimp only); omega) (by (try dsimp only); omega) (by (try dsimp only); omega) (by (try dsimp only); omega) (by (try dsimp only); omega)⟩⟩
                exact p_last
              refine p_fork ?_ ?_
              ·
                refine p_step rfl ?_
                have hau := Ow.nil (E := 35) (sz := 3) (enc := encFk) (lo := w305.heap.size) (hi := 0) (w := w305) (fun _ => rfl)
                have hrhau := hau.rng
                refine td rfl (d_appN (xs := fl) hau sl22 infoz35 (by decide) rfl rfl rfl (rfl) ((hF.ext hx309)) (fun _ => rfl) (by simp; unfold maxLen; omega) (by simp; omega) (Nat.le_refl _) (Nat.zero_le _) ?_)
                intro au cu w395 ho396 hau'
                have hs397 := ho396.size
                clear hau; have hau := hau'; clear hau'
                replace ho396 : Ext _ _ := ho396
                have hx400 := hx309.step ho396 (.inl (Nat.le_refl _))
                have hz401 := ho396.size
                replace hc_ := hc_.ext ho396
                refine ⟨hx400, ?_⟩
                simp only [List.nil_append] at hau ⊢
                obtain ⟨lu, hu, hlu, hhu, hau⟩ := owNamed hau
                refine t_end ?_
                refine p_fork ?_ ?_
                ·
                  refine p_step rfl ?_
                  refine td rfl (d_make (m := m) (lo := w.heap.size) (enc := encI) (e0 := (0 : Int)) sl23 info3 (fun _ => rfl) rfl rfl rfl (by omega) (by unfold maxLen; omega) (by omega) ?_)
                  intro bp w402 hbbp hs404 ho403 hp
                  have hx406 := hx400.step ho403 (.inl (Nat.le_refl _))
                  have hz407 := ho403.size
                  replace hau := hau.ext ho403
                  replace hc_ := hc_.ext ho403
                  refine ⟨hx406, ?_⟩
                  refine t_end ?_
                  refine p_step rfl ?_
                  refine td rfl (d_make (m := m) (lo := w.heap.size) (enc := encI) (e0 := (0 : Int)) sl23 info3 (fun _ => rfl) rfl rfl rfl (by omega) (by unfold maxLen; omega) (by omega) ?_)
                  intro br w408 hbbr hs410 ho409 hr
                  have hx412 := hx406.step ho409 (.inl (Nat.le_refl _))
                  have hz413 := ho409.size
                  replace hau := hau.ext ho409
                  replace hc_ := hc_.ext ho409
                  replace hp := hp.ext ho409
                  refine ⟨hx412, ?_⟩
                  refine t_end ?_
                  refine p_done ?_
                  have hz414 := hx412.size
                  replace hF := hF.ext hx412
                  replace hE := hE.step hx412 (.inl (Nat.le_refl _))
                  replace hcut := hcut.step hx412 (.inl (Nat.le_refl _))
                  refine st (y_build (bld67_1_2_3_4 _ _ _ _ _ _ _ _ _ _ _ _ _) rfl) ?_
                  refine sd (d_boxA rfl ?_)
                  intro bx w415 hbbx hs417 ho416 hbx
                  have hz418 := ho416.size
                  replace hF := hF.ext ho416
                  replace hE := hE.step ho416 (.inl (Nat.le_refl _))
                  replace hcut := hcut.step ho416 (.inl (Nat.le_refl _))
                  replace hc_ := hc_.ext ho416
                  replace hau := hau.ext ho416
                  replace hp := hp.ext ho416
                  replace hr := hr.ext ho416
                  refine st (asP rfl) ?_
                  refine rg_end ?_
                  exact n_then ⟨(bx, bp, br, bc, au, cu, lu, hu), _, rfl, same_lk rfl (same_rfl), ⟨rfl, trivial⟩, ⟨hcut, hbx, hp.wide (by omega), hr.wide (by (try dsimp only); omega), hc_.wide (by (try dsimp only); omega), hau.sl, by (try dsimp only); omega, by (try dsimp only); omega, by (try dsimp only); omega, by (try dsimp only); omega, by (try dsimp only); omega, by (try dsimp only); omega, by (try dsimp only); omega, by (try dsimp only); omega, by (try dsimp only); omega, rsep_mk (by (try dsimp only); omega) (by (try dsimp only); omega) (by (try dsimp only); omega) (by (try dsimp only); omega) (by (try dsimp only); omega) (by (try dsimp only); omega) (by (try dsimp only); omega) (by (try dsimp only); omega) (by (try dsimp only); omega)⟩⟩
                refine p_fork ?_ ?_
                ·
                  refine p_step rfl ?_
                  refine td rfl (d_make (m := m) (lo := w.heap.size) (enc := encI) (e0 := (0 : Int)) sl23 info3 (fun _ => rfl) rfl rfl rfl (by omega) (by unfold maxLen; omega) (by omega) ?_)
                  intro br w419 hbbr hs421 ho420 hr
                  have hx423 := hx400.step ho420 (.inl (Nat.le_refl _))
                  have hz424 := ho420.size
                  replace hau := hau.ext ho420
                  replace hc_ := hc_.ext ho420
                  refine ⟨hx423, ?_⟩
                  refine t_end ?_
                  refine p_step rfl ?_
                  refine td rfl (d_make (m := m) (lo := w.heap.size) (enc := encI) (e0 := (0 : Int)) sl23 info3 (fun _ => rfl) rfl rfl rfl (by omega) (by unfold maxLen; omega) (by omega) ?_)
                  intro bp w425 hbbp hs427 ho426 hp
                  have hx429 := hx423.step ho426 (.inl (Nat.le_refl _))
                  have hz430 := ho426.size
                  replace hau := hau.ext ho426
                  replace hc_ := hc_.ext ho426
                  replace hr := hr.ext ho426
                  refine ⟨hx429, ?_⟩
                  refine t_end ?_
                  refine p_done ?_
                  have hz431 := hx429.size
                  replace hF := hF.ext hx429
                  replace hE := hE.step hx429 (.inl (Nat.le_refl _))
                  replace hcut := hcut.step hx429 (.inl (Nat.le_refl _))
                  refine st (y_build (bld67_1_2_3_4 _ _ _ _ _ _ _ _ _ _ _ _ _) rfl) ?_
                  refine sd (d_boxA rfl ?_)
                  intro bx w432 hbbx hs434 ho433 hbx
                  have hz435 := ho433.size
                  replace hF := hF.ext ho433
                  replace hE := hE.step ho433 (.inl (Nat.le_refl _))
                  replace hcut := hcut.step ho433 (.inl (Nat.le_refl _))
                  replace hc_ := hc_.ext ho433
                  replace hau := hau.ext ho433
                  replace hr := hr.ext ho433
                  replace hp := hp.ext ho433
                  refine st (asP rfl) ?_
                  refine rg_end ?_
                  exact n_then ⟨(bx, bp, br, bc, au, cu, lu, hu), _, rfl, same_lk rfl (same_rfl), ⟨rfl, trivial⟩, ⟨hcut, hbx, hp.wide (by omega), hr.wide (by (try dsimp only); omega), hc_.wide (by (try dsimp only); omega), hau.sl, by (try dsimp only); omega, by (try dsimp only); omega, by (try dsimp only); omega, by (try dsimp only); omega, by (try dsimp only); omega, by (try dsimp only); omega, by (try dsimp only); omega, by (try dsimp only); omega, by (try dsimp only); omega, rsep_mk (by (try dsimp only); omega) (by (try dsimp only); omega) (by (try dsimp only); omega) (by (try dsimp only); omega) (by (try dsimp only); omega) (by (try dsimp only); omega) (by (try dsimp only); omega) (by (try dsimp only); omega) (by (try dsimp only); omega)⟩⟩
                exact p_last
              exact p_last
            refine p_fork ?_ ?_
            ·
              refine p_step rfl ?_
              have hau := Ow.nil (E := 35) (sz := 3) (enc := encFk) (lo := w39.heap.size) (hi := 0) (w := w39) (fun _ => rfl)
              have hrhau := hau.rng
              refine td rfl (d_appN (xs := fl) hau sl22 infoz35 (by decide) rfl rfl rfl (rfl) ((hF.ext hx42)) (fun _ => rfl) (by simp; unfold maxLen; omega) (by simp; omega) (Nat.le_refl _) (Nat.zero_le _) ?_)
              intro au cu w436 ho437 hau'
              have hs438 := ho437.size
              clear hau; have hau := hau'; clear hau'
              replace ho437 : Ext _ _ := ho437
              have hx441 := hx42.step ho437 (.inl (Nat.le_refl _))
              have hz442 := ho437.size
              refine ⟨hx441, ?_⟩
              simp only [List.nil_append] at hau ⊢
              obtain ⟨lu, hu, hlu, hhu, hau⟩ := owNamed hau
              refine t_end ?_
              refine p_fork ?_ ?_
              ·
                refine p_step rfl ?_
                refine td rfl (d_make (m := m) (lo := w.heap.size) (enc := encI) (e0 := (0 : Int)) sl23 info3 (fun _ => rfl) rfl rfl rfl (by omega) (by unfold maxLen; omega) (by omega) ?_)
                intro bp w443 hbbp hs445 ho444 hp
                have hx447 := hx441.step ho444 (.inl (Nat.le_refl _))
                have hz448 := ho444.size
                replace hau := hau.ext ho444
                refine ⟨hx447, ?_⟩
                refine t_end ?_
                refine p_fork ?_ ?_
                ·
                  refine p_step rfl ?_
                  refine td rfl (d_make (m := m) (lo := w.heap.size) (enc := encI) (e0 := (0 : Int)) sl23 info3 (fun _ => rfl) rfl rfl rfl (by omega) (by unfold maxLen; omega) (by omega) ?_)
                  intro br w449 hbbr hs451 ho450 hr
                  have hx453 := hx447.step ho450 (.inl (Nat.le_refl _))
                  have hz454 := ho450.size
                  replace hau := hau.ext ho450
                  replace hp := hp.ext ho450
                  refine ⟨hx453, ?_⟩
                  refine t_end ?_
                  refine p_step rfl ?_
                  refine td rfl (d_make (m := m) (lo := w.heap.size) (enc := encB) (e0 := false) sl65 info4 (fun _ => rfl) rfl rfl rfl (by omega) (by unfold maxLen; omega) (by omega) ?_)
                  intro bc w455 hbbc hs457 ho456 hc_
                  have hx459 := hx453.step ho456 (.inl (Nat.le_refl _))
                  have hz460 := ho456.size
                  replace hau := hau.ext ho456
                  replace hp := hp.ext ho456
                  replace hr := hr.ext ho456
                  refine ⟨hx459, ?_⟩
                  refine t_end ?_
                  refine p_done ?_
                  have hz461 := hx459.size
                  replace hF := hF.ext hx459
                  replace hE := hE.step hx459 (.inl (Nat.le_refl _))
                  replace hcut := hcut.step hx459 (.inl (Nat.le_refl _))
                  refine st (y_build (bld67_1_2_3_4 _ _ _ _ _ _ _ _ _ _ _ _ _) rfl) ?_
                  refine sd (d_boxA rfl ?_)
                  intro bx w462 hbbx hs464 ho463 hbx
                  have hz465 := ho463.size
                  replace hF := hF.ext ho463
                  replace hE := hE.step ho463 (.inl (Nat.le_refl _))
                  replace hcut := hcut.step ho463 (.inl (Nat.le_refl _))
                  replace hau := hau.ext ho463
                  replace hp := hp.ext ho463
                  replace hr := hr.ext ho463
                  replace hc_ := hc_.ext ho463
                  refine st (asP rfl) ?_
                  refine rg_end ?_
                  exact n_then ⟨(bx, bp, br, bc, au, cu, lu, hu), _, rfl, same_lk rfl (same_rfl), ⟨rfl, trivial⟩, ⟨hcut, hbx, hp.wide (by omega), hr.wide (by (try dsimp only); omega), hc_.wide (by (try dsimp only); omega), hau.sl, by (try dsimp only); omega, by (try dsimp only); omega, by (try dsimp only); omega, by (try dsimp only); omega, by (try dsimp only); omega, by (try dsimp only); omega, by (try dsimp only); omega, by (try dsimp only); omega, by (try dsimp only); omega, rsep_mk (by (try dsimp only); omega) (by (try dsimp only); omega) (by (try dsimp only); omega) (by (try dsimp only); omega) (by (try dsimp only); omega) (by (try dsimp only); omega) (by (try dsimp only); omega) (by (try dsimp only); omega) (by (try dsimp only); omega)⟩⟩
                refine p_fork ?_ ?_
                ·
                  refine p_step rfl ?_
                  refine td rfl (d_make (m := m) (lo := w.heap.size) (enc := encB) (e0 := false) sl65 info4 (fun _ => rfl) rfl rfl rfl (by omega) (by unfold maxLen; omega) (by omega) ?_)
                  intro bc w466 hbbc hs468 ho467 hc_
                  have hx470 := hx447.step ho467 (.inl (Nat.le_refl _))
                  have hz471 := ho467.size
                  replace hau := hau.ext ho467
                  replace hp := hp.ext ho467
                  refine ⟨hx470, ?_⟩
                  refine t_end ?_
                  refine p_step rfl ?_
                  refine td rfl (d_make (m := m) (lo := w.heap.size) (enc := encI) (e0 := (0 : Int)) sl23 info3 (fun _ => rfl) rfl rfl rfl (by omega) (by unfold maxLen; omega) (by omega) ?_)
                  intro br w472 hbbr hs474 ho473 hr
                  have hx476 := hx470.step ho473 (.inl (Nat.le_refl _))
                  have hz477 := ho473.size
                  replace hau := hau.ext ho473
                  replace hc_ := hc_.ext ho473
                  replace hp := hp.ext ho473
                  refine ⟨hx476, ?_⟩
                  refine t_end ?_
                  refine p_done ?_
                  have hz478 := hx476.size
                  replace hF := hF.ext hx476
                  replace hE := hE.step hx476 (.inl (Nat.le_refl _))
                  replace hcut := hcut.step hx476 (.inl (Nat.le_refl _))
                  refine st (y_build (bld67_1_2_3_4 _ _ _ _ _ _ _ _ _ _ _ _ _) rfl) ?_
                  refine sd (d_boxA rfl ?_)
                  intro bx w479 hbbx hs481 ho480 hbx
                  have hz482 := ho480.size
                  replace hF := hF.ext ho480
                  replace hE := hE.step ho480 (.inl (Nat.le_refl _))
                  replace hcut := hcut.step ho480 (.inl (Nat.le_refl _))
                  replace hau := hau.ext ho480
                  replace hp := hp.ext ho480
                  replace hc_ := hc_.ext ho480
                  replace hr := hr.ext ho480
                  refine st (asP rfl) ?_
                  refine rg_end ?_
                  exact n_then ⟨(bx, bp, br, bc, au, cu, lu, hu), _, rfl, same_lk rfl (same_rfl), ⟨rfl, trivial⟩, ⟨hcut, hbx, hp.wide (by omega), hr.wide (by (try dsimp only); omega), hc_.wide (by (try dsimp only); omega), hau.sl, by (try dsimp only); omega, by (try dsimp only); omega, by (try dsimp only); omega, by (try dsimp only); omega, by (try dsimp only); omega, by (try dsimp only); omega, by (try dsimp only); omega, by (try dsimp only); omega, by (try dsimp only); omega, rsep_mk (by (try dsimp only); omega) (by (try dsimp only); omega) (by (try dsimp only); omega) (by (try dsimp only); omega) (by (try dsimp only); omega) (by (try dsimp only); omega) (by (try dsimp only); omega) (by (try dsimp only); omega) (by (try dsimp only); omega)⟩⟩
                exact p_last
              refine p_fork ?_ ?_
              ·
                refine p_step rfl ?_
                refine td rfl (d_make (m := m) (lo := w.heap.size) (enc := encI) (e0 := (0 : Int)) sl23 info3 (fun _ => rfl) rfl rfl rfl (by omega) (by unfold maxLen; omega) (by omega) ?_)
                intro br w483 hbbr hs485 ho484 hr
                have hx487 := hx441.step ho484 (.inl (Nat.le_refl _))
                have hz488 := ho484.size
                replace hau := hau.ext ho484
                refine ⟨hx487, ?_⟩
                refine t_end ?_
                refine p_fork ?_ ?_
                ·
                  refine p_step rfl ?_
                  refine td rfl (d_make (m := m) (lo := w.heap.size) (enc := encI) (e0 := (0 : Int)) sl23 info3 (fun _ => rfl) rfl rfl rfl (by omega) (by unfold maxLen; omega) (by omega) ?_)
                  intro bp w489 hbbp hs491 ho490 hp
                  have hx493 := hx487.step ho490 (.inl (Nat.le_refl _))
                  have hz494 := ho490.size
                  replace hau := hau.ext ho490
                  replace hr := hr.ext ho490
                  refine ⟨hx493, ?_⟩
                  refine t_end ?_
                  refine p_step rfl ?_
                  refine td rfl (d_make (m := m) (lo := w.heap.size) (enc := encB) (e0 := false) sl65 info4 (fun _ => rfl) rfl rfl rfl (by omega) (by unfold maxLen; omega) (by omega) ?_)
                  intro bc w495 hbbc hs497 ho496 hc_
                  have hx499 := hx493.step ho496 (.inl (Nat.le_refl _))
                  have hz500 := ho496.size
                  replace hau := hau.ext ho496
                  replace hp := hp.ext ho496
                  replace hr := hr.ext ho496
                  refine ⟨hx499, ?_⟩
                  refine t_end ?_
                  refine p_done ?_
                  have hz501 := hx499.size
                  replace hF := hF.ext hx499
                  replace hE := hE.step hx499 (.inl (Nat.le_refl _))
                  replace hcut := hcut.step hx499 (.inl (Nat.le_refl _))
                  refine st (y_build (bld67_1_2_3_4 _ _ _ _ _ _ _ _ _ _ _ _ _) rfl) ?_
                  refine sd (d_boxA rfl ?_)
                  intro bx w502 hbbx hs504 ho503 hbx
                  have hz505 := ho503.size
                  replace hF := hF.ext ho503
                  replace hE := hE.step ho503 (.inl (Nat.le_refl _))
                  replace hcut := hcut.step ho503 (.inl (Nat.le_refl _))
                  replace hau := hau.ext ho503
                  replace hr := hr.ext ho503
                  replace hp := hp.ext ho503
                  replace hc_ := hc_.ext ho503
                  refine st (asP rfl) ?_
                  refine rg_end ?_
                  exact n_then ⟨(bx, bp, br, bc, au, cu, lu, hu), _, rfl, same_lk rfl (same_rfl), ⟨rfl, trivial⟩, ⟨hcut, hbx, hp.wide (by omega), hr.wide (by (try dsimp only); omega), hc_.wide (by (try dsimp only); omega), hau.sl, by (try dsimp only); omega, by (try dsimp only); omega, by (try dsimp only); omega, by (try dsimp only); omega, by (try dsimp only); omega, by (try dsimp only); omega, by (try dsimp only); omega, by (try dsimp only); omega, by (try dsimp only); omega, rsep_mk (by (try dsimp only); omega) (by (try dsimp only); omega) (by (try dsimp only); omega) (by (try dsimp only); omega) (by (try dsimp only); omega) (by (try dsimp only); omega) (by (try dsimp only); omega) (by (try dsimp only); omega) (by (try dsimp only); omega)⟩⟩
                refine p_fork ?_ ?_
                ·
                  refine p_step rfl ?_
                  refine td rfl (d_make (m := m) (lo := w.heap.size) (enc := encB) (e0 := false) sl65 info4 (fun _ => rfl) rfl rfl rfl (by omega) (by unfold maxLen; omega) (by omega) ?_)
                  intro bc w506 hbbc hs508 ho507 hc_
                  have hx510 := hx487.step ho507 (.inl (Nat.le_refl _))
                  have hz511 := ho507.size
                  replace hau := hau.ext ho507
                  replace hr := hr.ext ho507
                  refine ⟨hx510, ?_⟩
                  refine t_end ?_
                  refine p_step rfl ?_
                  refine td rfl (d_make (m := m) (lo := w.heap.size) (enc := encI) (e0 := (0 : Int)) sl23 info3 (fun _ => rfl) rfl rfl rfl (by omega) (by unfold maxLen; omega) (by omega) ?_)
                  intro bp w512 hbbp hs514 ho513 hp
                  have hx516 := hx510.step ho513 (.inl (Nat.le_refl _))
                  have hz517 := ho513.size
                  replace hau := hau.ext ho513
                  replace hc_ := hc_.ext ho513
                  replace hr := hr.ext ho513
                  refine ⟨hx516, ?_⟩
                  refine t_end ?_
                  refine p_done ?_
                  have hz518 := hx516.size
                  replace hF := hF.ext hx516
                  replace hE := hE.step hx516 (.inl (Nat.le_refl _))
                  replace hcut := hcut.step hx516 (.inl (Nat.le_refl _))
                  refine st (y_build (bld67_1_2_3_4 _ _ _ _ _ _ _ _ _ _ _ _ _) rfl) ?_
                  refine sd (d_boxA rfl ?_)
                  intro bx w519 hbbx hs521 ho520 hbx
                  have hz522 := ho520.size
                  replace hF := hF.ext ho520
                  replace hE := hE.step ho520 (.inl (Nat.le_refl _))
                  replace hcut := hcut.step ho520 (.inl (Nat.le_refl _))
                  replace hau := hau.ext ho520
                  replace hr := hr.ext ho520
                  replace hc_ := hc_.ext ho520
                  replace hp := hp.ext ho520
                  refine st (asP rfl) ?_
                  refine rg_end ?_
                  exact n_then ⟨(bx, bp, br, bc, au, cu, lu, hu), _, rfl, same_lk rfl (same_rfl), ⟨rfl, trivial⟩, ⟨hcut, hbx, hp.wide (by omega), hr.wide (by (try dsimp only); omega), hc_.wide (by (try dsimp only); omega), hau.sl, by (try dsimp only); omega, by (try dsimp only); omega, by (try dsimp only); omega, by (try dsimp only); omega, by (try dsimp only); omega, by (try dsimp only); omega, by (try dsimp only); omega, by (try dsimp only); omega, by (try dsimp only); omega, rsep_mk (by (try dsimp only); omega) (by (try dsimp only); omega) (by (try dsimp only); omega) (by (try dsimp only); omega) (by (try dsimp only); omega) (by (try dsimp only); omega) (by (try dsimp only); omega) (by (try dsimp only); omega) (by (try dsimp only); omega)⟩⟩
                exact p_last
              refine p_fork ?_ ?_
              ·
                refine p_step rfl ?_
                refine td rfl (d_make (m := m) (lo := w.heap.size) (enc := encB) (e0 := false) sl65 info4 (fun _ => rfl) rfl rfl rfl (by omega) (by unfold maxLen; omega) (by omega) ?_)
                intro bc w523 hbbc hs525 ho524 hc_
                have hx527 := hx441.step ho524 (.inl (Nat.le_refl _))
                have hz528 := ho524.size
                replace hau := hau.ext ho524
                refine ⟨hx527, ?_⟩
                refine t_end ?_
                refine p_fork ?_ ?_
                ·
                  refine p_step rfl ?_
                  refine td rfl (d_make (m := m) (lo := w.heap.size) (enc := encI) (e0 := (0 : Int)) sl23 info3 (fun _ => rfl) rfl rfl rfl (by omega) (by unfold maxLen; omega) (by omega) ?_)
                  intro bp w529 hbbp hs531 ho530 hp
                  have hx533 := hx527.step ho530 (.inl (Nat.le_refl _))
                  have hz534 := ho530.size
                  replace hau := hau.ext ho530
                  replace hc_ := hc_.ext ho530
                  refine ⟨hx533, ?_⟩
                  refine t_end ?_
                  refine p_step rfl ?_
                  refine td rfl (d_make (m := m) (lo := w.heap.size) (enc := encI) (e0 := (0 : Int)) sl23 info3 (fun _ => rfl) rfl rfl rfl (by omega) (by unfold maxLen; omega) (by omega) ?_)
                  intro br w535 hbbr hs537 ho536 hr
                  have hx539 := hx533.step ho536 (.inl (Nat.le_refl _))
                  have hz540 := ho536.size
                  replace hau := hau.ext ho536
                  replace hc_ := hc_.ext ho536
                  replace hp := hp.ext ho536
                  refine ⟨hx539, ?_⟩
                  refine t_end ?_
                  refine p_done ?_
                  have hz541 := hx539.size
                  replace hF := hF.ext hx539
                  replace hE := hE.step hx539 (.inl (Nat.le_refl _))
                  replace hcut := hcut.step hx539 (.inl (Nat.le_refl _))
                  refine st (y_build (bld67_1_2_3_4 _ _ _ _ _ _ _ _ _ _ _ _ _) rfl) ?_
                  refine sd (d_boxA rfl ?_)
                  intro bx w542 hbbx hs544 ho543 hbx
                  have hz545 := ho543.size
                  replace hF := hF.ext ho543
                  replace hE := hE.step ho543 (.inl (Nat.le_refl _))
                  replace hcut := hcut.step ho543 (.inl (Nat.le_refl _))
                  replace hau := hau.ext ho543
                  replace hc_ := hc_.ext ho543
                  replace hp := hp.ext ho543
                  replace hr := hr.ext ho543
                  refine st (asP rfl) ?_
                  refine rg_end ?_
                  exact n_then ⟨(bx, bp, br, bc, au, cu, lu, hu), _, rfl, same_lk rfl (same_rfl), ⟨rfl, trivial⟩, ⟨hcut, hbx, hp.wide (by omega), hr.wide (by (try dsimp only); omega), hc_.wide (by (try dsimp only); omega), hau.sl, by (try dsimp only); omega, by (try dsimp only); omega, by (try dsimp only); omega, by (try dsimp only); omega, by (try dsimp only); omega, by (try dsimp only); omega, by (try dsimp only); omega, by (try dsimp only); omega, by (try dsimp only); omega, rsep_mk (by (try dsimp only); omega) (by (try dsimp only); omega) (by (try dsimp only); omega) (by (try dsimp only); omega) (by (try dsimp only); omega) (by (try dsimp only); omega) (by (try dsimp only); omega) (by (try dsimp only); omega) (by (try dsimp only); omega)⟩⟩
                refine p_fork ?_ ?_
                ·
                  refine p_step rfl ?_
                  refine td rfl (d_make (m := m) (lo := w.heap.size) (enc := encI) (e0 := (0 : Int)) sl23 info3 (fun _ => rfl) rfl rfl rfl (by omega) (by unfold maxLen; omega) (by omega) ?_)
                  intro br w546 hbbr hs548 ho547 hr
                  have hx550 := hx527.step ho547 (.inl (Nat.le_refl _))
                  have hz551 := ho547.size
                  replace hau := hau.ext ho547
                  replace hc_ := hc_.ext ho547
                  refine ⟨hx550, ?_⟩
                  refine t_end ?_
                  refine p_step rfl ?_
                  refine td rfl (d_make (m := m) (lo := w.heap.size) (enc := encI) (e0 := (0 : Int)) sl23 info3 (fun _ => rfl) rfl rfl rfl (by omega) (by unfold maxLen; omega) (by omega) ?_)
                  intro bp w552 hbbp hs554 ho553 hp
                  have hx556 := hx550.step ho553 (.inl (Nat.le_refl _))
                  have hz557 := ho553.size
                  replace hau := hau.ext ho553
                  replace hc_ := hc_.ext ho553
                  replace hr := hr.ext ho553
                  refine ⟨hx556, ?_⟩
                  refine t_end ?_
                  refine p_done ?_
                  have hz558 := hx556.size
                  replace hF := hF.ext hx556
                  replace hE := hE.step hx556 (.inl (Nat.le_refl _))
                  replace hcut := hcut.step hx556 (.inl (Nat.le_refl _))
                  refine st (y_build (bld67_1_2_3_4 _ _ _ _ _ _ _ _ _ _ _ _ _) rfl) ?_
                  refine sd (d_boxA rfl ?_)
                  intro bx w559 hbbx hs561 ho560 hbx
                  have hz562 := ho560.size
                  replace hF := hF.ext ho560
                  replace hE := hE.step ho560 (.inl (Nat.le_refl _))
                  replace hcut := hcut.step ho560 (.inl (Nat.le_refl _))
                  replace hau := hau.ext ho560
                  replace hc_ := hc_.ext ho560
                  replace hr := hr.ext ho560
                  replace hp := hp.ext ho560
                  refine st (asP rfl) ?_
                  refine rg_end ?_
                  exact n_then ⟨(bx, bp, br, bc, au, cu, lu, hu), _, rfl, same_lk rfl (same_rfl), ⟨rfl, trivial⟩, ⟨hcut, hbx, hp.wide (by omega), hr.wide (by (try dsimp only); omega), hc_.wide (by (try dsimp only); omega), hau.sl, by (try dsimp only); omega, by (try dsimp only); omega, by (try dsimp only); omega, by (try dsimp only); omega, by (try dsimp only); omega, by (try dsimp only); omega, by (try dsimp only); omega, by (try dsimp only); omega, by (try dsimp only); omega, rsep_mk (by (try dsimp only); omega) (by (try dsimp only); omega) (by (try dsimp only); omega) (by (try dsimp only); omega) (by (try dsimp only); omega) (by (try dsimp only); omega) (by (try dsimp only); omega) (by (try dsimp only); omega) (by (try dsimp only); omega)⟩⟩
                exact p_last
              exact p_last
            exact p_last
          ·
            rintro ⟨b, bp, br, bc, au, cu, l2, h2⟩ hav_ w563 ⟨ho564, hb, hp, hr, hc_, hf, hl2, hh2, hbh, hp0, hp1, hr0, hr1, hc0', hc1', hsp⟩
            have hz565 := ho564.size
            replace hF := hF.ext ho564
            replace hE := hE.step ho564 (.inl (Nat.le_refl _))
            refine wp_seq ?_
            refine wp_seq ?_
            refine rg ?_
            refine st (asI rfl) ?_
            refine rg_end ?_
            refine n_then ?_
            refine wp_block ?_
            obtain ⟨z2, hz2⟩ : ∃ z, z = w563.heap.size := ⟨_, rfl⟩
            refine lp (γ := Nat × List Int × Option Addr × Nat) [11, 95, 96, 97, 98, 99, 100, 101, 102, 103, 104, 105, 106, 107, 108] (fun ⟨k, H, ah, ch⟩ => [(11, .int .i64 (k : Int))]) (fun ⟨k, H, ah, ch⟩ w_ => Out b (b + 1) w563 w_ ∧ k ≤ m ∧ H = List.replicate k (-1) ∧ Blk w_ b [.slice ah H.length ch, .slice (some ⟨bp, 0, none⟩) m m, .slice (some ⟨br, 0, none⟩) m m, .slice (some ⟨bc, 0, none⟩) m m, .slice au fl.length cu] ∧ Ow 3 encI 1 z2 w_.heap.size w_ ah ch H) (fun ⟨k, H, ah, ch⟩ => m - k) (0, [], none, 0) ⟨rfl, trivial⟩ ⟨Out.refl _ _ _, by omega, rfl, hb, Ow.nil (fun _ => rfl)⟩ ?_
            rintro ⟨k, H, ah, ch⟩ hav_ w566 ⟨ho567, hk, hH, hb, hh⟩
            have hlp2 := ho567
            have hz568 := ho567.size
            replace hF := hF.out ho567 (by first | omega | (simp only [blk_some, hi1_some] at *; omega))
            replace hE := hE.step ho567 (by first | omega | (simp only [blk_some, hi1_some] at *; omega))
            replace hp := hp.out ho567 (by first | omega | (simp only [blk_some, hi1_some] at *; omega))
            replace hr := hr.out ho567 (by first | omega | (simp only [blk_some, hi1_some] at *; omega))
            replace hc_ := hc_.out ho567 (by first | omega | (simp only [blk_some, hi1_some] at *; omega))
            replace hf := hf.out ho567 (by first | omega | (simp only [blk_some, hi1_some] at *; omega))
            have hHl : H.length = k := by rw [hH]; simp
            refine wp_seq ?_
            refine wp_seq ?_
            refine rg ?_
            refine st (mvI rfl) ?_
            refine st (mvI rfl) ?_
            refine st (y_lss rfl rfl) ?_
            refine rg_end ?_
            refine n_then ?_
            refine cnd rfl (fun hc7 => ?_) (fun hc7 => ?_)
            ·
              try simp only [decide_eq_true_eq, decide_eq_false_iff_not, Bool.not_eq_true', Bool.not_eq_false', Bool.and_eq_true, Bool.or_eq_true, Bool.or_eq_false_iff, Bool.cond_true_right, Bool.cond_false_right, Bool.cond_true_left, Bool.cond_false_left, ne_eq, Decidable.not_not, bne_iff_ne, beq_iff_eq, beq_eq_false_iff_ne, Bool.not_true, Bool.not_false] at hc7
              refine wp_skip ?_
              refine n_then ?_
              refine wp_seq ?_
              refine wp_block ?_
              refine rg ?_
              refine st (mvP rfl) ?_
              refine st (mvP rfl) ?_
              refine st (y_nil rfl) ?_
              refine st (y_fld fld67_0 rfl) ?_
              refine st (y_lb hb na23 rfl rfl) ?_
              refine sd (d_bs (bsl23_1 _ _) rfl ?_)
              intro bl572 w569 hbbl572 hs571 ho570 hbl572
              have hz573 := ho570.size
              replace hF := hF.ext ho570
              replace hE := hE.step ho570 (.inl (Nat.le_refl _))
              replace hp := hp.ext ho570
              replace hr := hr.ext ho570
              replace hc_ := hc_.ext ho570
              replace hf := hf.ext ho570
              replace hb := hb.ext ho570
              replace hh := hh.ext ho570
              replace hlp2 := hlp2.step ho570 (.inl (Nat.le_refl _))
              have hrhh := hh.rng
              refine sd (d_app (xs := [(-1 : Int)]) hh sl23 infoz3 (by decide) rfl rfl rfl rfl (hbl572) (fun _ => rfl) (by simp; unfold maxLen; omega) (by simp; omega) (by omega) (by omega) ?_)
              intro ah1 ch1 w574 ho575 hh'
              have hs576 := ho575.size
              clear hh; have hh := hh'; clear hh'
              have hz579 := ho575.size
              replace hF := hF.out ho575 (by first | omega | (simp only [blk_some, hi1_some] at *; omega))
              replace hE := hE.step ho575 (by first | omega | (simp only [blk_some, hi1_some] at *; omega))
              replace hp := hp.out ho575 (by first | omega | (simp only [blk_some, hi1_some] at *; omega))
              replace hr := hr.out ho575 (by first | omega | (simp only [blk_some, hi1_some] at *; omega))
              replace hc_ := hc_.out ho575 (by first | omega | (simp only [blk_some, hi1_some] at *; omega))
              replace hf := hf.out ho575 (by first | omega | (simp only [blk_some, hi1_some] at *; omega))
              replace hb := hb.out ho575 (by first | omega | (simp only [blk_some, hi1_some] at *; omega))
              replace hlp2 := hlp2.step ho575 (by first | omega | (simp only [blk_some, hi1_some] at *; omega))
              have hrg1 := hh.rng
              refine st (y_nil rfl) ?_
              refine st (y_fld fld67_0 rfl) ?_
              refine sd0 (d_st hb sz23 rfl rfl rfl (Nat.le_of_ble_eq_true rfl) ?_)
              intro w580 hs582 ho581 hb'
              clear hb; have hb := hb'; clear hb'
              have hz583 := ho581.size
              replace hF := hF.out ho581 (by first | omega | (simp only [blk_some, hi1_some] at *; omega))
              replace hE := hE.step ho581 (by first | omega | (simp only [blk_some, hi1_some] at *; omega))
              replace hp := hp.out ho581 (by first | omega | (simp only [blk_some, hi1_some] at *; omega))
              replace hr := hr.out ho581 (by first | omega | (simp only [blk_some, hi1_some] at *; omega))
              replace hc_ := hc_.out ho581 (by first | omega | (simp only [blk_some, hi1_some] at *; omega))
              replace hf := hf.out ho581 (by first | omega | (simp only [blk_some, hi1_some] at *; omega))
              replace hlp2 := hlp2.step ho581 (by first | omega | (simp only [blk_some, hi1_some] at *; omega))
              replace hh := hh.out ho581 (by first | omega | (simp only [blk_some, hi1_some] at *; omega))
              refine rg_end ?_
              refine n_blk ?_
              refine n_then ?_
              refine rg ?_
              refine st (mvI rfl) ?_
              refine st (y_add rfl rfl (by omega)) ?_
              refine st (asI rfl) ?_
              refine rg_end ?_
              exact n_then ⟨(k + 1, _, _, _), _, rfl, same_lk rfl (same_h0), ⟨rfl, trivial⟩, ⟨hlp2, by omega, by rw [hH]; exact rep_snoc, hb, hh.wide (by omega)⟩, by first | omega | (dsimp only; omega)⟩
            ·
              try simp only [decide_eq_true_eq, decide_eq_false_iff_not, Bool.not_eq_true', Bool.not_eq_false', Bool.and_eq_true, Bool.or_eq_true, Bool.or_eq_false_iff, Bool.cond_true_right, Bool.cond_false_right, Bool.cond_true_left, Bool.cond_false_left, ne_eq, Decidable.not_not, bne_iff_ne, beq_iff_eq, beq_eq_false_iff_ne, Bool.not_true, Bool.not_false] at hc7
              refine wp_exit ?_
              refine e_then (e_then (e_blk (?_)))
              refine n_then ?_
              refine wp_seq ?_
              refine rg ?_
              refine st (mvP rfl) ?_
              refine st (asP rfl) ?_
              refine st (asI rfl) ?_
              refine rg_end ?_
              refine n_then ?_
              refine wp_ret ?_
              refine ret2 (v := (.pointer _)) (v' := (.int .i64 _)) Try.results11 rfl rfl ?_
              have hkm : k = m := by omega
              subst hkm
              have hrg := hh.rng
              exact ⟨_, 0, rfl, (hne.trans (newGo_end hc2 hgo)).symm, fun h => absurd rfl h, fun _ => ⟨b, rfl, rlk_of (by rw [hHl] at hb; exact hb) (hh.lower (by omega)) (hp.wide (by omega)) (hr.wide (by omega)) (hc_.wide (by omega)) hf hl2 (by omega) (by omega) (by omega) (Nat.le_refl _) (rsep_h (z2 := z2) hsp (by omega) (by omega) hp1 hr1 hc1' hh2) (by simp [initS]) (by rw [map_init, hH]; simp) (by rw [map_init]; simp) (by rw [map_init]; simp) (by rw [map_init]; simp) rfl⟩, hE⟩
end Go.Proofs.Ytciljdhihnnfiaa
