/-
  Walks of the functions, printed by a program out of the code and the loops' relations.
-/
import Derived.Test.YteicgnmggkhlbaaWkS
import Derived.Test.YteicgnmggkhlbaaProg
import Derived.KernelRfl
import Derived.Test.YteicgnmggkhlbaaP5
namespace Go.Proofs.Yteicgnmggkhlbaa
open Go.Wk Go.RowKit
set_option linter.unusedVariables false
set_option linter.unusedSimpArgs false
theorem cl43 : Callable Try.prog 43 := ⟨Try.call43⟩
theorem cl48 : Callable Try.prog 48 := ⟨Try.call48⟩
theorem cl49 : Callable Try.prog 49 := ⟨Try.call49⟩
theorem fld79_0 : FieldOf Try.prog 79 0 0 := fun b o w => by simp [Instr.fieldAt, fieldPlace, Instr.sureAddr, Addr.add_lit]
theorem fld79_1 : FieldOf Try.prog 79 1 1 := fun b o w => by simp [Instr.fieldAt, fieldPlace, Instr.sureAddr, Addr.add_lit]
theorem fld79_2 : FieldOf Try.prog 79 2 11 := fun b o w => by simp [Instr.fieldAt, fieldPlace, Instr.sureAddr, Addr.add_lit]
theorem na23 : NotAgg Try.prog 23 := Try.isAgg23
theorem na74 : NotAgg Try.prog 74 := Try.isAgg74
theorem sz3 : SzOf Try.prog 3 1 := Try.sizeOf3
theorem sz74 : SzOf Try.prog 74 1 := Try.sizeOf74

def holdF (rows : List Pw) (A H : List Int) (t v : Int) : List Int := if secT rows A t < 0 then H else H.set (secT rows A t).toNat v
def obsF (rows : List Pw) (A H : List Int) (t : Int) : Int := if (el rows t).st.length ≤ el A t + 1 then -1 else if el H (el (el rows t).st (el A t + 1)).sec ≠ t then el H (el (el rows t).st (el A t + 1)).sec else -1
theorem holdF_len {rows : List Pw} {A H : List Int} {t v : Int} : (holdF rows A H t v).length = H.length := by unfold holdF; split <;> simp
theorem sec_rng {rows : List Pw} {A : List Int} (hva : VaP rows) {t : Nat} (ht : t < rows.length) : secT rows A (t : Int) = -1 ∨ (0 ≤ secT rows A (t : Int) ∧ secT rows A (t : Int) < 144) := by
  unfold secT
  by_cases h : el A (t : Int) < 0 ∨ (el rows (t : Int)).st.length ≤ el A (t : Int)
  · rw [if_pos h]; exact .inl rfl
  · rw [if_neg h]
    obtain ⟨p, hp⟩ := Int.eq_ofNat_of_zero_le (show 0 ≤ el A (t : Int) by omega)
    have hs := (va_row hva (k := t) (by omega)).sg p (by omega)
    rw [hp]; exact .inr ⟨hs.s0, hs.s1⟩
theorem nx_rng {rows : List Pw} {A : List Int} (hva : VaP rows) {t : Nat} (ht : t < rows.length) (h0 : -1 ≤ el A (t : Int)) (h1 : el A (t : Int) + 1 < (el rows (t : Int)).st.length) : 0 ≤ (el (el rows (t : Int)).st (el A (t : Int) + 1)).sec ∧ (el (el rows (t : Int)).st (el A (t : Int) + 1)).sec < 144 := by
  obtain ⟨p, hp⟩ := Int.eq_ofNat_of_zero_le (show 0 ≤ el A (t : Int) + 1 by omega)
  have hs := (va_row hva (k := t) (by omega)).sg p (by omega)
  rw [hp]; exact ⟨hs.s0, hs.s1⟩
/-- What the table of holders says of the first 'k' trains. -/
structure HOk (rows : List Pw) (A H : List Int) (k : Nat) : Prop where
  len : H.length = 144
  val : ∀ r : Int, 0 ≤ r → r < 144 → (el H r = -1 ∧ ∀ u : Nat, u < k → secT rows A (u : Int) ≠ r) ∨ (∃ u : Nat, u < k ∧ el H r = (u : Int) ∧ secT rows A (u : Int) = r)
theorem secT_congr {rows : List Pw} {A B : List Int} {t : Int} (h : el A t = el B t) : secT rows A t = secT rows B t := by unfold secT; rw [h]
theorem HOk.congr {rows : List Pw} {A B H : List Int} {k : Nat} (h : HOk rows A H k) (e : ∀ u : Nat, u < k → el A (u : Int) = el B (u : Int)) : HOk rows B H k := ⟨h.len, fun r h0 h1 => by
  rcases h.val r h0 h1 with ⟨q1, q2⟩ | ⟨u, hu, q1, q2⟩
  · exact .inl ⟨q1, fun u hu => by rw [← secT_congr (e u hu)]; exact q2 u hu⟩
  · exact .inr ⟨u, hu, q1, by rw [← secT_congr (e u hu)]; exact q2⟩⟩
theorem HOk.put {rows : List Pw} {A H : List Int} {k : Nat} (h : HOk rows A H k) (hva : VaP rows) (hk : k < rows.length) : HOk rows A (holdF rows A H (k : Int) (k : Int)) (k + 1) := by
  have hl := h.len
  refine ⟨by rw [holdF_len]; exact hl, fun r h0 h1 => ?_⟩
  rcases sec_rng (A := A) hva hk with hs | hs
  · unfold holdF; rw [if_pos (by omega)]
    rcases h.val r h0 h1 with ⟨q1, q2⟩ | ⟨u, hu, q1, q2⟩
    · refine .inl ⟨q1, fun u hu => ?_⟩
      by_cases e : u = k
      · subst e; omega
      · exact q2 u (by omega)
    · exact .inr ⟨u, by omega, q1, q2⟩
  · unfold holdF; rw [if_neg (by omega)]
    by_cases e : r = secT rows A (k : Int)
    · rw [e, elSetS hs.1 (by omega)]; exact .inr ⟨k, by omega, rfl, rfl⟩
    · rw [elSetN hs.1 h0 e]
      rcases h.val r h0 h1 with ⟨q1, q2⟩ | ⟨u, hu, q1, q2⟩
      · refine .inl ⟨q1, fun u hu => ?_⟩
        by_cases e' : u = k
        · subst e'; exact fun q => e q.symm
        · exact q2 u (by omega)
      · exact .inr ⟨u, by omega, q1, q2⟩
theorem nohel {rows : List Pw} {A : List Int} (h : ¬ Hel rows A) {t u : Nat} (ht : t < rows.length) (hu : u < rows.length) (h0 : 0 ≤ secT rows A (t : Int)) (e : secT rows A (t : Int) = secT rows A (u : Int)) : t = u := by
  refine Classical.byContradiction fun hne => h ?_
  by_cases q : u < t
  · exact ⟨t, u, ht, q, h0, e⟩
  · exact ⟨u, t, hu, by omega, by omega, e.symm⟩
theorem blkT_none {rows : List Pw} {A : List Int} {t : Int} : ∀ {k : Nat}, (∀ u : Nat, u < k → (u : Int) ≠ t → secT rows A (u : Int) ≠ (el (el rows t).st (el A t + 1)).sec) → blkT rows A t k = -1
  | 0, _ => rfl
  | k + 1, h => by
    rw [blkT, if_neg (fun q => h k (by omega) q.2.1 q.2.2)]
    exact blkT_none (fun u hu => h u (by omega))
theorem blkT_one {rows : List Pw} {A : List Int} {t : Int} {v : Nat} : ∀ {k : Nat}, v < k → (v : Int) ≠ t → secT rows A (v : Int) = (el (el rows t).st (el A t + 1)).sec → (∀ u : Nat, u < k → secT rows A (u : Int) = (el (el rows t).st (el A t + 1)).sec → u = v) → blkT rows A t k = (v : Int)
  | 0, h, _, _, _ => by omega
  | k + 1, h, h1, h2, h3 => by
    by_cases e : v = k
    · subst e
      rw [blkT, if_pos ⟨blkT_none (fun u hu _ q => by have := h3 u (by omega) q; omega), h1, h2⟩]
    · rw [blkT, if_neg (fun q => by have := h3 k (by omega) q.2.2; omega)]
      exact blkT_one (by omega) h1 h2 (fun u hu => h3 u (by omega))
theorem obs_bloc {rows : List Pw} {A H : List Int} (hva : VaP rows) (hH : HOk rows A H rows.length) (hnh : ¬ Hel rows A) {t : Nat} (ht : t < rows.length) (h0 : -1 ≤ el A (t : Int)) : obsF rows A H (t : Int) = blocT rows A (t : Int) := by
  unfold obsF blocT
  by_cases h : (el rows (t : Int)).st.length ≤ el A (t : Int) + 1
  · rw [if_pos h, if_pos h]
  · rw [if_neg h, if_neg h]
    have hn := nx_rng hva ht h0 (by omega)
    rcases hH.val _ hn.1 hn.2 with ⟨q1, q2⟩ | ⟨u, hu, q1, q2⟩
    · rw [q1, blkT_none (fun u hu _ => q2 u hu)]; split <;> rfl
    · rw [q1]
      have hun : ∀ v : Nat, v < rows.length → secT rows A (v : Int) = (el (el rows (t : Int)).st (el A (t : Int) + 1)).sec → v = u := fun v hv e => nohel hnh hv hu (by omega) (by omega)
      by_cases e : u = t
      · subst e
        rw [if_neg (fun q => q rfl), blkT_none (fun v hv hne q => by have := hun v hv q; omega)]
      · rw [if_pos (by omega), blkT_one hu (by omega) q2 hun]
theorem HOk.move {rows : List Pw} {A H : List Int} {t : Nat} {p : Int} (h : HOk rows A H rows.length) (hva : VaP rows) (hnh : ¬ Hel rows A) (ht : t < rows.length) (hA : t < A.length) : HOk rows (A.set t p) (holdF rows (A.set t p) (holdF rows A H (t : Int) (-1)) (t : Int) (t : Int)) rows.length := by
  have hl := h.len
  have he : ∀ u : Nat, u ≠ t → el (A.set t p) (u : Int) = el A (u : Int) := fun u hu => by
    have := elSetN (l := A) (i := (t : Int)) (j := (u : Int)) (v := p) (by omega) (by omega) (by omega)
    simpa using this
  have h1 : ∀ r : Int, 0 ≤ r → r < 144 → (el (holdF rows A H (t : Int) (-1)) r = -1 ∧ ∀ u : Nat, u < rows.length → u ≠ t → secT rows A (u : Int) ≠ r) ∨ (∃ u : Nat, u < rows.length ∧ u ≠ t ∧ el (holdF rows A H (t : Int) (-1)) r = (u : Int) ∧ secT rows A (u : Int) = r) := fun r h0 h1 => by
    rcases sec_rng (A := A) hva ht with hs | hs
    · unfold holdF; rw [if_pos (by omega)]
      rcases h.val r h0 h1 with ⟨q1, q2⟩ | ⟨u, hu, q1, q2⟩
      · exact .inl ⟨q1, fun u hu _ => q2 u hu⟩
      · refine .inr ⟨u, hu, fun e => ?_, q1, q2⟩
        subst e; omega
    · unfold holdF; rw [if_neg (by omega)]
      by_cases e : r = secT rows A (t : Int)
      · rw [e, elSetS hs.1 (by omega)]
        exact .inl ⟨rfl, fun u hu hne q => hne (nohel hnh hu ht (by omega) q)⟩
      · rw [elSetN hs.1 h0 e]
        rcases h.val r h0 h1 with ⟨q1, q2⟩ | ⟨u, hu, q1, q2⟩
        · exact .inl ⟨q1, fun u hu _ => q2 u hu⟩
        · refine .inr ⟨u, hu, fun e' => ?_, q1, q2⟩
          subst e'; exact e q2.symm
  have hl1 : (holdF rows A H (t : Int) (-1)).length = 144 := by rw [holdF_len]; exact hl
  generalize holdF rows A H (t : Int) (-1) = H1 at h1 hl1
  refine ⟨by rw [holdF_len]; exact hl1, fun r h0 h2 => ?_⟩
  rcases sec_rng (A := A.set t p) hva ht with hs | hs
  · unfold holdF; rw [if_pos (by omega)]
    rcases h1 r h0 h2 with ⟨q1, q2⟩ | ⟨u, hu, hne, q1, q2⟩
    · refine .inl ⟨q1, fun u hu => ?_⟩
      by_cases e : u = t
      · subst e; omega
      · rw [secT_congr (he u e)]; exact q2 u hu e
    · exact .inr ⟨u, hu, q1, by rw [secT_congr (he u hne)]; exact q2⟩
  · unfold holdF; rw [if_neg (by omega)]
    by_cases e : r = secT rows (A.set t p) (t : Int)
    · rw [e, elSetS hs.1 (by omega)]; exact .inr ⟨t, ht, rfl, rfl⟩
    · rw [elSetN hs.1 h0 e]
      rcases h1 r h0 h2 with ⟨q1, q2⟩ | ⟨u, hu, hne, q1, q2⟩
      · refine .inl ⟨q1, fun u hu => ?_⟩
        by_cases e' : u = t
        · subst e'; exact fun q => e q.symm
        · rw [secT_congr (he u e')]; exact q2 u hu e'
      · exact .inr ⟨u, hu, q1, by rw [secT_congr (he u hne)]; exact q2⟩
/-- After a move that can be made no two trains hold the same section. -/
theorem hel_move {rows : List Pw} {A : List Int} {t : Nat} (hva : VaP rows) (hnh : ¬ Hel rows A) (ht : t < rows.length) (hA : t < A.length) (h0 : -1 ≤ el A (t : Int)) (hm : movB rows A (t : Int) = true) : ¬ Hel rows (A.set t (el A (t : Int) + 1)) := by
  have he : ∀ u : Nat, u ≠ t → el (A.set t (el A (t : Int) + 1)) (u : Int) = el A (u : Int) := fun u hu => by
    have := elSetN (l := A) (i := (t : Int)) (j := (u : Int)) (v := el A (t : Int) + 1) (by omega) (by omega) (by omega)
    simpa using this
  have het : el (A.set t (el A (t : Int) + 1)) (t : Int) = el A (t : Int) + 1 := by
    have := elSetS (l := A) (i := (t : Int)) (v := el A (t : Int) + 1) (by omega) (by omega)
    simpa using this
  unfold movB at hm
  simp only [Bool.and_eq_true, decide_eq_true_eq] at hm
  have key : ∀ u : Nat, u < rows.length → u ≠ t → 0 ≤ secT rows (A.set t (el A (t : Int) + 1)) (t : Int) → secT rows (A.set t (el A (t : Int) + 1)) (t : Int) ≠ secT rows A (u : Int) := fun u hu hne hs q => by
    have hlt : ¬ (el rows (t : Int)).st.length ≤ el A (t : Int) + 1 := fun c => by
      unfold secT at hs; rw [het, if_pos (.inr c)] at hs; omega
    have e1 : secT rows (A.set t (el A (t : Int) + 1)) (t : Int) = (el (el rows (t : Int)).st (el A (t : Int) + 1)).sec := by unfold secT; rw [het, if_neg (by omega)]
    have hb := hm.2
    unfold blocT at hb
    rw [if_neg hlt] at hb
    have hun : ∀ v : Nat, v < rows.length → secT rows A (v : Int) = (el (el rows (t : Int)).st (el A (t : Int) + 1)).sec → v = u := fun v hv e => nohel hnh hv hu (by omega) (by omega)
    rw [blkT_one hu (by omega) (by omega) hun] at hb
    omega
  rintro ⟨a, b, ha, hb, hs, e⟩
  by_cases ea : a = t
  · subst ea
    rw [secT_congr (he b (by omega))] at e
    exact key b (by omega) (by omega) hs e
  · by_cases eb : b = t
    · subst eb
      rw [secT_congr (he a ea)] at e hs
      exact key a ha ea (by omega) e.symm
    · rw [secT_congr (he a ea)] at e hs
      rw [secT_congr (he b eb)] at e
      exact hnh ⟨a, b, ha, hb, hs, e⟩

set_option maxHeartbeats 1000000 in
set_option maxRecDepth 100000 in
theorem dead_hold_ok (rows : List Pw) (ap : Option Addr) (cp l_ h_ bst : Nat) (A H : List Int) (t : Nat) (v : Int) (w : World) (hP : PIn l_ h_ w ap rows) (hbst : Blk w bst (stC (.slice ap rows.length cp) A H)) (hva : VaP rows) (hlb : h_ ≤ bst) (hAl : A.length = 10) (hHl : H.length = 144) (ht : t < rows.length) (hr : -1 ≤ el A (t : Int) ∧ el A (t : Int) ≤ (el rows (t : Int)).st.length)  : Cal Try.prog 48 [.pointer (some ⟨bst, 0, none⟩), .int .i64 (t : Int), .int .i64 v] w (fun r w' => r = .tuple #[] ∧ Blk w' bst (stC (.slice ap rows.length cp) A (holdF rows A H (t : Int) v)) ∧ Out bst (bst + 1) w w') := by
  have hbl := hbst.lt
  have hrl := hva.len
  have hrk := va_row hva (k := t) (by omega)
  have hl2 := hrk.l2
  have hmr := el_mem (l := rows) (i := (t : Int)) (by omega) (by omega)
  have hR := hP.row _ hmr
  have hcv : IntKind.i64.wrap (el A (t : Int)) = el A (t : Int) := i64_in (by omega)
  have hE : Out bst (bst + 1) w w := Out.refl _ _ w
  refine enter Try.func48 rfl Try.ntmps48 rfl ?_
  refine wp_seq ?_
  refine rg ?_
  refine st (mvP rfl) ?_
  refine st (mvI rfl) ?_
  refine st (y_nil rfl) ?_
  refine st (y_fld fld79_1 rfl) ?_
  refine st (y_ixF Try.underlying76 sz74 rfl rfl (by omega) (by omega)) ?_
  refine st (y_lb hbst na74 rfl (stC_A (i := (t : Int)) (by omega) (by omega))) ?_
  refine st (y_conv rfl rfl Try.underlying3) ?_
  rw [hcv]
  refine st (asI rfl) ?_
  refine rg_end ?_
  refine n_then ?_
  refine wp_seq ?_
  refine rg ?_
  refine st (mvI rfl) ?_
  refine st (y_geq rfl rfl) ?_
  refine st (mvB rfl) ?_
  refine gspL 16 rfl (fun hg1 => ?_) (fun hg1 => ?_)
  ·
    have hg1n := hg1; try simp only [decide_eq_true_eq, decide_eq_false_iff_not, Bool.not_eq_true', Bool.not_eq_false', Bool.and_eq_true, Bool.or_eq_true, Bool.or_eq_false_iff, Bool.cond_true_right, Bool.cond_false_right, Bool.cond_true_left, Bool.cond_false_left, ne_eq, Decidable.not_not, bne_iff_ne, beq_iff_eq, beq_eq_false_iff_ne, Bool.not_true, Bool.not_false] at hg1n
    refine stg rfl rfl hg1 (mvI rfl) ?_
    refine stg rfl rfl hg1 (mvP rfl) ?_
    refine stg rfl rfl hg1 (y_nil rfl) ?_
    refine stg rfl rfl hg1 (y_fld fld79_0 rfl) ?_
    refine stg rfl rfl hg1 (y_lb hbst na23 rfl rfl) ?_
    refine stg rfl rfl hg1 (mvI rfl) ?_
    refine stg rfl rfl hg1 (y_ix hP.tb sl23 rfl (rfl) rfl (by omega) (by omega)) ?_
    refine stg rfl rfl hg1 (y_le hP.tb na35 rfl (by omega) (by omega) rfl) ?_
    refine stg rfl rfl hg1 (y_len Try.underlying35 rfl) ?_
    refine stg rfl rfl hg1 (y_lss rfl rfl) ?_
    refine st (y_pickT rfl hg1 (v := .bool _) rfl) ?_
    refine rg_end ?_
    refine n_then ?_
    refine cnd rfl (fun hc0 => ?_) (fun hc0 => ?_)
    ·
      try simp only [decide_eq_true_eq, decide_eq_false_iff_not, Bool.not_eq_true', Bool.not_eq_false', Bool.and_eq_true, Bool.or_eq_true, Bool.or_eq_false_iff, Bool.cond_true_right, Bool.cond_false_right, Bool.cond_true_left, Bool.cond_false_left, ne_eq, Decidable.not_not, bne_iff_ne, beq_iff_eq, beq_eq_false_iff_ne, Bool.not_true, Bool.not_false] at hc0
      have hs : secT rows A (t : Int) = (el (el rows (t : Int)).st (el A (t : Int))).sec := by unfold secT; rw [if_neg (by omega)]
      have hsr := sec_rng (A := A) hva ht
      have hs0 := hsr.resolve_left (fun q => by
        obtain ⟨p_, hp_⟩ := Int.eq_ofNat_of_zero_le (show 0 ≤ el A (t : Int) by omega)
        have := (hrk.sg p_ (by omega)).s0
        rw [← hp_] at this
        omega)
      have s0 := hs0.1
      have s1 := hs0.2
      rw [hs] at s0 s1
      refine rgD 15 (fun w_ => Ext w w_) (fun i => false) mixed (by kernel_rfl) ?_
      intro w2 ho3 hs4
      refine ⟨ho3, ?_⟩
      have hx5 := ho3
      refine tn rfl (fun _ hG => mvP rfl) ?_
      refine tn rfl (fun _ hG => mvP rfl) ?_
      refine tn rfl (fun _ hG => y_nil rfl) ?_
      refine tn rfl (fun _ hG => y_fld fld79_0 rfl) ?_
      refine tn rfl (fun _ hG => y_lb (hbst.ext hG) na23 rfl rfl) ?_
      refine tn rfl (fun _ hG => mvI rfl) ?_
      refine tn rfl (fun _ hG => y_ix (hP.tb.ext hG) sl23 rfl (rfl) rfl (by omega) (by omega)) ?_
      refine tn rfl (fun _ hG => y_le (hP.tb.ext hG) na35 rfl (by omega) (by omega) rfl) ?_
      refine tn rfl (fun _ hG => mvI rfl) ?_
      refine tn rfl (fun _ hG => y_ix (hR.ext hG) sl35 rfl (rfl) rfl (by omega) (by omega)) ?_
      refine tn rfl (fun _ hG => y_fld fld44_0 rfl) ?_
      refine tn rfl (fun _ hG => y_lf (hR.ext hG) na3 rfl (by omega) (by omega) rfl) ?_
      refine tn rfl (fun _ hG => mvI rfl) ?_
      refine tn rfl (fun _ hG => y_nil rfl) ?_
      refine tn rfl (fun _ hG => y_fld fld79_2 rfl) ?_
      refine t_end ?_
      have hz6 := hx5.size
      replace hP := hP.ext hx5
      replace hbst := hbst.ext hx5
      replace hR := hR.ext hx5
      replace hE := hE.step hx5 (.inl (Nat.le_refl _))
      refine st (y_ixF Try.underlying77 sz3 rfl rfl (s0) (s1)) ?_
      refine sd0 (d_st (v := .int .i64 _) hbst sz3 rfl rfl rfl (by rw [stC_len]; omega) ?_)
      intro w7 hs9 ho8 hbst'
      rw [stC_setH hAl] at hbst'
      clear hbst; have hbst := hbst'; clear hbst'
      have hz10 := ho8.size
      replace hP := hP.out ho8 (by first | omega | (simp only [blk_some, hi1_some] at *; omega))
      replace hR := hR.out ho8 (by first | omega | (simp only [blk_some, hi1_some] at *; omega))
      replace hE := hE.step ho8 (by first | omega | (simp only [blk_some, hi1_some] at *; omega))
      refine rg_end ?_
      refine end0 Try.results48 ?_
      first
      | exact ⟨rfl, by unfold holdF; rw [hs, if_neg (by omega)]; exact hbst, hE⟩
      | exact ⟨rfl, by unfold holdF; rw [hs, if_pos (by omega)]; exact hbst, hE⟩
    ·
      try simp only [decide_eq_true_eq, decide_eq_false_iff_not, Bool.not_eq_true', Bool.not_eq_false', Bool.and_eq_true, Bool.or_eq_true, Bool.or_eq_false_iff, Bool.cond_true_right, Bool.cond_false_right, Bool.cond_true_left, Bool.cond_false_left, ne_eq, Decidable.not_not, bne_iff_ne, beq_iff_eq, beq_eq_false_iff_ne, Bool.not_true, Bool.not_false] at hc0
      have hs : secT rows A (t : Int) = -1 := by unfold secT; rw [if_pos (by omega)]
      refine wp_skip ?_
      refine end0 Try.results48 ?_
      first
      | exact ⟨rfl, by unfold holdF; rw [hs, if_neg (by omega)]; exact hbst, hE⟩
      | exact ⟨rfl, by unfold holdF; rw [hs, if_pos (by omega)]; exact hbst, hE⟩
  ·
    have hg1n := hg1; try simp only [decide_eq_true_eq, decide_eq_false_iff_not, Bool.not_eq_true', Bool.not_eq_false', Bool.and_eq_true, Bool.or_eq_true, Bool.or_eq_false_iff, Bool.cond_true_right, Bool.cond_false_right, Bool.cond_true_left, Bool.cond_false_left, ne_eq, Decidable.not_not, bne_iff_ne, beq_iff_eq, beq_eq_false_iff_ne, Bool.not_true, Bool.not_false] at hg1n
    refine sts rfl rfl hg1 ?_
    refine sts rfl rfl hg1 ?_
    refine sts rfl rfl hg1 ?_
    refine sts rfl rfl hg1 ?_
    refine sts rfl rfl hg1 ?_
    refine sts rfl rfl hg1 ?_
    refine sts rfl rfl hg1 ?_
    refine sts rfl rfl hg1 ?_
    refine sts rfl rfl hg1 ?_
    refine sts rfl rfl hg1 ?_
    refine st (y_pickF rfl hg1 (v := .bool _) rfl) ?_
    refine rg_end ?_
    refine n_then ?_
    refine cnd rfl (fun hc0 => absurd hc0 (by decide)) (fun hc0 => ?_)
    have hs : secT rows A (t : Int) = -1 := by unfold secT; rw [if_pos (by omega)]
    refine wp_skip ?_
    refine end0 Try.results48 ?_
    first
    | exact ⟨rfl, by unfold holdF; rw [hs, if_neg (by omega)]; exact hbst, hE⟩
    | exact ⟨rfl, by unfold holdF; rw [hs, if_pos (by omega)]; exact hbst, hE⟩

set_option maxHeartbeats 1000000 in
set_option maxRecDepth 100000 in
theorem dead_set_ok (rows : List Pw) (ap : Option Addr) (cp l_ h_ bst : Nat) (A H : List Int) (t : Nat) (p : Int) (w : World) (hP : PIn l_ h_ w ap rows) (hbst : Blk w bst (stC (.slice ap rows.length cp) A H)) (hva : VaP rows) (hlb : h_ ≤ bst) (hAl : A.length = 10) (hHl : H.length = 144) (ht : t < rows.length) (hr : -1 ≤ el A (t : Int) ∧ el A (t : Int) ≤ (el rows (t : Int)).st.length) (hp : -1 ≤ p ∧ p ≤ (el rows (t : Int)).st.length) : Cal Try.prog 50 [.pointer (some ⟨bst, 0, none⟩), .int .i64 (t : Int), .int .i8 p] w (fun r w' => r = .tuple #[] ∧ Blk w' bst (stC (.slice ap rows.length cp) (A.set t p) (holdF rows (A.set t p) (holdF rows A H (t : Int) (-1)) (t : Int) (t : Int))) ∧ Out bst (bst + 1) w w') := by
  have hbl := hbst.lt
  have hrl := hva.len
  have hrk := va_row hva (k := t) (by omega)
  have hl2 := hrk.l2
  have hmr := el_mem (l := rows) (i := (t : Int)) (by omega) (by omega)
  have hR := hP.row _ hmr
  have hcv : IntKind.i64.wrap (el A (t : Int)) = el A (t : Int) := i64_in (by omega)
  have het : el (A.set t p) (t : Int) = p := by
    have := elSetS (l := A) (i := (t : Int)) (v := p) (by omega) (by omega)
    simpa using this
  have hE : Out bst (bst + 1) w w := Out.refl _ _ w
  refine enter Try.func50 rfl Try.ntmps50 rfl ?_
  refine wp_seq ?_
  refine rg ?_
  refine st (mvP rfl) ?_
  refine st (mvI rfl) ?_
  refine sc cl48 (dead_hold_ok rows ap cp l_ h_ bst A H t (-1) _ hP hbst hva hlb hAl hHl ht hr) rfl ?_
  rintro v5 w1 ⟨rfl, hbst', ho2⟩
  clear hbst; have hbst := hbst'; clear hbst'
  have hz6 := ho2.size
  replace hP := hP.out ho2 (by first | omega | (simp only [blk_some, hi1_some] at *; omega))
  replace hE := hE.step ho2 (by first | omega | (simp only [blk_some, hi1_some] at *; omega))
  refine rg_end ?_
  refine n_then ?_
  refine wp_seq ?_
  refine rg ?_
  refine st (mvP rfl) ?_
  refine st (mvI rfl) ?_
  refine st (mvI rfl) ?_
  refine st (y_nil rfl) ?_
  refine st (y_fld fld79_1 rfl) ?_
  refine st (y_ixF Try.underlying76 sz74 rfl rfl (by omega) (by omega)) ?_
  refine sd0 (d_st (v := .int .i8 _) hbst sz74 rfl rfl rfl (by rw [stC_len]; omega) ?_)
  intro w7 hs9 ho8 hbst'
  rw [stC_setA (i := (t : Int).toNat) (by omega)] at hbst'
  clear hbst; have hbst := hbst'; clear hbst'
  have hz10 := ho8.size
  replace hP := hP.out ho8 (by first | omega | (simp only [blk_some, hi1_some] at *; omega))
  replace hE := hE.step ho8 (by first | omega | (simp only [blk_some, hi1_some] at *; omega))
  rw [Int.toNat_natCast] at hbst
  refine rg_end ?_
  refine n_then ?_
  refine rg ?_
  refine st (mvP rfl) ?_
  refine st (mvI rfl) ?_
  refine st (mvI rfl) ?_
  refine sc cl48 (dead_hold_ok rows ap cp l_ h_ bst (A.set t p) (holdF rows A H (t : Int) (-1)) t (t : Int) _ hP hbst hva hlb (by simp [hAl]) (by rw [holdF_len]; exact hHl) ht (by rw [het]; exact hp)) rfl ?_
  rintro v15 w11 ⟨rfl, hbst', ho12⟩
  clear hbst; have hbst := hbst'; clear hbst'
  have hz16 := ho12.size
  replace hP := hP.out ho12 (by first | omega | (simp only [blk_some, hi1_some] at *; omega))
  replace hE := hE.step ho12 (by first | omega | (simp only [blk_some, hi1_some] at *; omega))
  refine rg_end ?_
  refine end0 Try.results50 ?_
  exact ⟨rfl, hbst, hE⟩

set_option maxRecDepth 100000 in
theorem dead_hasLeft_ok (rows : List Pw) (ap : Option Addr) (cp l_ h_ bst : Nat) (A H : List Int) (t : Nat) (w : World) (hP : PIn l_ h_ w ap rows) (hbst : Blk w bst (stC (.slice ap rows.length cp) A H)) (hva : VaP rows) (hlb : h_ ≤ bst) (hAl : A.length = 10) (hHl : H.length = 144) (ht : t < rows.length) (hr : -1 ≤ el A (t : Int) ∧ el A (t : Int) ≤ (el rows (t : Int)).st.length)  : Cal Try.prog 49 [.pointer (some ⟨bst, 0, none⟩), .int .i64 (t : Int)] w (fun r w' => r = .bool (decide (el A (t : Int) = (el rows (t : Int)).st.length)) ∧ Ext w w') := by
  have hbl := hbst.lt
  have hrl := hva.len
  have hrk := va_row hva (k := t) (by omega)
  have hl2 := hrk.l2
  have hmr := el_mem (l := rows) (i := (t : Int)) (by omega) (by omega)
  have hR := hP.row _ hmr
  have hcv : IntKind.i64.wrap (el A (t : Int)) = el A (t : Int) := i64_in (by omega)
  have hE : Out 0 0 w w := Out.refl _ _ w
  refine enter Try.func49 rfl Try.ntmps49 rfl ?_
  refine wp_seq ?_
  refine rg ?_
  refine st (asB rfl) ?_
  refine rg_end ?_
  refine n_then ?_
  refine wp_seq ?_
  refine rgD 15 (fun w_ => Ext w w_) (fun i => false) mixed (by kernel_rfl) ?_
  intro w1 ho2 hs3
  refine ⟨ho2, ?_⟩
  have hx4 := ho2
  refine tn rfl (fun _ hG => mvP rfl) ?_
  refine tn rfl (fun _ hG => mvI rfl) ?_
  refine tn rfl (fun _ hG => y_nil rfl) ?_
  refine tn rfl (fun _ hG => y_fld fld79_1 rfl) ?_
  refine tn rfl (fun _ hG => y_ixF Try.underlying76 sz74 rfl rfl (by omega) (by omega)) ?_
  refine tn rfl (fun _ hG => y_lb (hbst.ext hG) na74 rfl (stC_A (i := (t : Int)) (by omega) (by omega))) ?_
  refine tn rfl (fun _ hG => y_conv rfl rfl Try.underlying3) ?_
  rw [hcv]
  refine tn rfl (fun _ hG => mvP rfl) ?_
  refine tn rfl (fun _ hG => y_nil rfl) ?_
  refine tn rfl (fun _ hG => y_fld fld79_0 rfl) ?_
  refine tn rfl (fun _ hG => y_lb (hbst.ext hG) na23 rfl rfl) ?_
  refine tn rfl (fun _ hG => mvI rfl) ?_
  refine tn rfl (fun _ hG => y_ix (hP.tb.ext hG) sl23 rfl (rfl) rfl (by omega) (by omega)) ?_
  refine tn rfl (fun _ hG => y_le (hP.tb.ext hG) na35 rfl (by omega) (by omega) rfl) ?_
  refine tn rfl (fun _ hG => y_len Try.underlying35 rfl) ?_
  refine t_end ?_
  have hz5 := hx4.size
  replace hP := hP.ext hx4
  replace hbst := hbst.ext hx4
  replace hR := hR.ext hx4
  replace hE := hE.step hx4 (.inl (Nat.le_refl _))
  refine st (y_eql rfl rfl) ?_
  refine st (asB rfl) ?_
  refine rg_end ?_
  refine n_then ?_
  refine wp_ret ?_
  refine ret1 (v := (.bool _)) Try.results49 rfl ?_
  exact ⟨rfl, hE⟩

set_option maxRecDepth 100000 in
theorem dead_obstacle_ok (rows : List Pw) (ap : Option Addr) (cp l_ h_ bst : Nat) (A H : List Int) (t : Nat) (w : World) (hP : PIn l_ h_ w ap rows) (hbst : Blk w bst (stC (.slice ap rows.length cp) A H)) (hva : VaP rows) (hlb : h_ ≤ bst) (hAl : A.length = 10) (hHl : H.length = 144) (ht : t < rows.length) (hr : -1 ≤ el A (t : Int) ∧ el A (t : Int) ≤ (el rows (t : Int)).st.length)  : Cal Try.prog 43 [.pointer (some ⟨bst, 0, none⟩), .int .i64 (t : Int)] w (fun r w' => r = .int .i64 (obsF rows A H (t : Int)) ∧ Ext w w') := by
  have hbl := hbst.lt
  have hrl := hva.len
  have hrk := va_row hva (k := t) (by omega)
  have hl2 := hrk.l2
  have hmr := el_mem (l := rows) (i := (t : Int)) (by omega) (by omega)
  have hR := hP.row _ hmr
  have hcv : IntKind.i64.wrap (el A (t : Int)) = el A (t : Int) := i64_in (by omega)
  have hE : Out 0 0 w w := Out.refl _ _ w
  refine enter Try.func43 rfl Try.ntmps43 rfl ?_
  refine wp_seq ?_
  refine rg ?_
  refine st (asI rfl) ?_
  refine rg_end ?_
  refine n_then ?_
  refine wp_seq ?_
  refine rg ?_
  refine st (mvP rfl) ?_
  refine st (mvI rfl) ?_
  refine st (y_nil rfl) ?_
  refine st (y_fld fld79_1 rfl) ?_
  refine st (y_ixF Try.underlying76 sz74 rfl rfl (by omega) (by omega)) ?_
  refine st (y_lb hbst na74 rfl (stC_A (i := (t : Int)) (by omega) (by omega))) ?_
  refine st (y_conv rfl rfl Try.underlying3) ?_
  rw [hcv]
  refine st (y_add rfl rfl (by omega)) ?_
  refine st (asI rfl) ?_
  refine rg_end ?_
  refine n_then ?_
  refine wp_seq ?_
  refine wp_seq ?_
  refine rg ?_
  refine st (mvI rfl) ?_
  refine st (mvP rfl) ?_
  refine st (y_nil rfl) ?_
  refine st (y_fld fld79_0 rfl) ?_
  refine st (y_lb hbst na23 rfl rfl) ?_
  refine st (mvI rfl) ?_
  refine st (y_ix hP.tb sl23 rfl (rfl) rfl (by omega) (by omega)) ?_
  refine st (y_le hP.tb na35 rfl (by omega) (by omega) rfl) ?_
  refine st (y_len Try.underlying35 rfl) ?_
  refine st (y_geq rfl rfl) ?_
  refine rg_end ?_
  refine n_then ?_
  refine cnd rfl (fun hc0 => ?_) (fun hc0 => ?_)
  ·
    try simp only [decide_eq_true_eq, decide_eq_false_iff_not, Bool.not_eq_true', Bool.not_eq_false', Bool.and_eq_true, Bool.or_eq_true, Bool.or_eq_false_iff, Bool.cond_true_right, Bool.cond_false_right, Bool.cond_true_left, Bool.cond_false_left, ne_eq, Decidable.not_not, bne_iff_ne, beq_iff_eq, beq_eq_false_iff_ne, Bool.not_true, Bool.not_false] at hc0
    refine wp_seq ?_
    refine rg ?_
    refine st (asI rfl) ?_
    refine rg_end ?_
    refine n_then ?_
    refine wp_ret ?_
    refine r_then (ret1 (v := (.int .i64 _)) Try.results43 rfl ?_)
    exact ⟨vi (by unfold obsF; rw [if_pos (by omega)]), hE⟩
  ·
    try simp only [decide_eq_true_eq, decide_eq_false_iff_not, Bool.not_eq_true', Bool.not_eq_false', Bool.and_eq_true, Bool.or_eq_true, Bool.or_eq_false_iff, Bool.cond_true_right, Bool.cond_false_right, Bool.cond_true_left, Bool.cond_false_left, ne_eq, Decidable.not_not, bne_iff_ne, beq_iff_eq, beq_eq_false_iff_ne, Bool.not_true, Bool.not_false] at hc0
    have hnr := nx_rng (A := A) hva ht hr.1 (by omega)
    have s0 := hnr.1
    have s1 := hnr.2
    refine wp_skip ?_
    refine n_then ?_
    refine wp_seq ?_
    refine wp_seq ?_
    refine rgD 14 (fun w_ => Ext w w_) (fun i => false) mixed (by kernel_rfl) ?_
    intro w1 ho2 hs3
    refine ⟨ho2, ?_⟩
    have hx4 := ho2
    refine tn rfl (fun _ hG => mvP rfl) ?_
    refine tn rfl (fun _ hG => mvP rfl) ?_
    refine tn rfl (fun _ hG => y_nil rfl) ?_
    refine tn rfl (fun _ hG => y_fld fld79_0 rfl) ?_
    refine tn rfl (fun _ hG => y_lb (hbst.ext hG) na23 rfl rfl) ?_
    refine tn rfl (fun _ hG => mvI rfl) ?_
    refine tn rfl (fun _ hG => y_ix (hP.tb.ext hG) sl23 rfl (rfl) rfl (by omega) (by omega)) ?_
    refine tn rfl (fun _ hG => y_le (hP.tb.ext hG) na35 rfl (by omega) (by omega) rfl) ?_
    refine tn rfl (fun _ hG => mvI rfl) ?_
    refine tn rfl (fun _ hG => y_ix (hR.ext hG) sl35 rfl (rfl) rfl (by omega) (by omega)) ?_
    refine tn rfl (fun _ hG => y_fld fld44_0 rfl) ?_
    refine tn rfl (fun _ hG => y_lf (hR.ext hG) na3 rfl (by omega) (by omega) rfl) ?_
    refine tn rfl (fun _ hG => y_nil rfl) ?_
    refine tn rfl (fun _ hG => y_fld fld79_2 rfl) ?_
    refine t_end ?_
    have hz5 := hx4.size
    replace hP := hP.ext hx4
    replace hbst := hbst.ext hx4
    replace hR := hR.ext hx4
    replace hE := hE.step hx4 (.inl (Nat.le_refl _))
    refine st (y_ixF Try.underlying77 sz3 rfl rfl (s0) (s1)) ?_
    refine st (y_lb hbst na3 rfl (stC_H hAl (by omega) (by omega))) ?_
    refine st (asI rfl) ?_
    refine rg_end ?_
    refine n_then ?_
    refine wp_seq ?_
    refine rg ?_
    refine st (mvI rfl) ?_
    refine st (mvI rfl) ?_
    refine st (y_neq rfl rfl) ?_
    refine rg_end ?_
    refine n_then ?_
    refine cnd rfl (fun hc1 => ?_) (fun hc1 => ?_)
    ·
      try simp only [decide_eq_true_eq, decide_eq_false_iff_not, Bool.not_eq_true', Bool.not_eq_false', Bool.and_eq_true, Bool.or_eq_true, Bool.or_eq_false_iff, Bool.cond_true_right, Bool.cond_false_right, Bool.cond_true_left, Bool.cond_false_left, ne_eq, Decidable.not_not, bne_iff_ne, beq_iff_eq, beq_eq_false_iff_ne, Bool.not_true, Bool.not_false] at hc1
      refine wp_seq ?_
      refine rg ?_
      refine st (mvI rfl) ?_
      refine st (asI rfl) ?_
      refine rg_end ?_
      refine n_then ?_
      refine wp_ret ?_
      refine r_then (ret1 (v := (.int .i64 _)) Try.results43 rfl ?_)
      exact ⟨vi (by unfold obsF; rw [if_neg (by omega), if_pos (by assumption)]), hE⟩
    ·
      try simp only [decide_eq_true_eq, decide_eq_false_iff_not, Bool.not_eq_true', Bool.not_eq_false', Bool.and_eq_true, Bool.or_eq_true, Bool.or_eq_false_iff, Bool.cond_true_right, Bool.cond_false_right, Bool.cond_true_left, Bool.cond_false_left, ne_eq, Decidable.not_not, bne_iff_ne, beq_iff_eq, beq_eq_false_iff_ne, Bool.not_true, Bool.not_false] at hc1
      refine wp_skip ?_
      refine n_then ?_
      refine wp_seq ?_
      refine rg ?_
      refine st (asI rfl) ?_
      refine rg_end ?_
      refine n_then ?_
      refine wp_ret ?_
      refine ret1 (v := (.int .i64 _)) Try.results43 rfl ?_
      exact ⟨vi (by unfold obsF; rw [if_neg (by omega), if_neg (by simpa using hc1)]), hE⟩

set_option maxRecDepth 100000 in
theorem dead_canMove_ok (rows : List Pw) (ap : Option Addr) (cp l_ h_ bst : Nat) (A H : List Int) (t : Nat) (w : World) (hP : PIn l_ h_ w ap rows) (hbst : Blk w bst (stC (.slice ap rows.length cp) A H)) (hva : VaP rows) (hlb : h_ ≤ bst) (hAl : A.length = 10) (hHl : H.length = 144) (ht : t < rows.length) (hr : -1 ≤ el A (t : Int) ∧ el A (t : Int) ≤ (el rows (t : Int)).st.length) (hH : HOk rows A H rows.length) (hnh : ¬ Hel rows A) : Cal Try.prog 40 [.pointer (some ⟨bst, 0, none⟩), .int .i64 (t : Int)] w (fun r w' => r = .bool (movB rows A (t : Int)) ∧ Ext w w') := by
  have hob := obs_bloc hva hH hnh ht hr.1
  have hbr : blocT rows A (t : Int) = -1 ∨ 0 ≤ blocT rows A (t : Int) := by
    unfold blocT
    split
    · exact .inl rfl
    · have := blkT_rng (rows := rows) (at_ := A) (t := (t : Int)) rows.length; omega
  have hE : Out 0 0 w w := Out.refl _ _ w
  refine enter Try.func40 rfl Try.ntmps40 rfl ?_
  refine wp_seq ?_
  refine rg ?_
  refine st (asB rfl) ?_
  refine rg_end ?_
  refine n_then ?_
  refine wp_seq ?_
  refine rg ?_
  refine st (mvP rfl) ?_
  refine st (mvI rfl) ?_
  refine sc cl49 (dead_hasLeft_ok rows ap cp l_ h_ bst A H t _ hP hbst hva hlb hAl hHl ht hr) rfl ?_
  rintro v5 w1 ⟨rfl, ho2⟩
  have hz6 := ho2.size
  replace hP := hP.ext ho2
  replace hbst := hbst.ext ho2
  replace hE := hE.step ho2 (.inl (Nat.le_refl _))
  refine st (y_not rfl) ?_
  refine st (mvB rfl) ?_
  refine gspL 9 rfl (fun hg7 => ?_) (fun hg7 => ?_)
  ·
    have hg7n := hg7; try simp only [decide_eq_true_eq, decide_eq_false_iff_not, Bool.not_eq_true', Bool.not_eq_false', Bool.and_eq_true, Bool.or_eq_true, Bool.or_eq_false_iff, Bool.cond_true_right, Bool.cond_false_right, Bool.cond_true_left, Bool.cond_false_left, ne_eq, Decidable.not_not, bne_iff_ne, beq_iff_eq, beq_eq_false_iff_ne, Bool.not_true, Bool.not_false] at hg7n
    have hlt : el A (t : Int) < (el rows (t : Int)).st.length := by omega
    refine stg rfl rfl hg7 (mvP rfl) ?_
    refine stg rfl rfl hg7 (mvI rfl) ?_
    refine scg rfl rfl hg7 cl43 (dead_obstacle_ok rows ap cp l_ h_ bst A H t _ hP hbst hva hlb hAl hHl ht hr) rfl ?_
    rintro v12 w8 ⟨rfl, ho9⟩
    have hz13 := ho9.size
    replace hP := hP.ext ho9
    replace hbst := hbst.ext ho9
    replace hE := hE.step ho9 (.inl (Nat.le_refl _))
    refine stg rfl rfl hg7 (y_eql rfl rfl) ?_
    refine st (y_pickT rfl hg7 (v := .bool _) rfl) ?_
    refine st (asB rfl) ?_
    refine rg_end ?_
    refine n_then ?_
    refine wp_ret ?_
    refine ret1 (v := (.bool _)) Try.results40 rfl ?_
    first
    | exact ⟨vb (by unfold movB; rw [hob]; simp only [decide_eq_true_eq, Bool.and_eq_true]; omega), hE⟩
    | exact ⟨vb (by unfold movB; rw [decide_eq_false hge]; simp), hE⟩
  ·
    have hg7n := hg7; try simp only [decide_eq_true_eq, decide_eq_false_iff_not, Bool.not_eq_true', Bool.not_eq_false', Bool.and_eq_true, Bool.or_eq_true, Bool.or_eq_false_iff, Bool.cond_true_right, Bool.cond_false_right, Bool.cond_true_left, Bool.cond_false_left, ne_eq, Decidable.not_not, bne_iff_ne, beq_iff_eq, beq_eq_false_iff_ne, Bool.not_true, Bool.not_false] at hg7n
    have hge : ¬ el A (t : Int) < (el rows (t : Int)).st.length := by omega
    refine sts rfl rfl hg7 ?_
    refine sts rfl rfl hg7 ?_
    refine sts rfl rfl hg7 ?_
    refine sts rfl rfl hg7 ?_
    refine st (y_pickF rfl hg7 (v := .bool _) rfl) ?_
    refine st (asB rfl) ?_
    refine rg_end ?_
    refine n_then ?_
    refine wp_ret ?_
    refine ret1 (v := (.bool _)) Try.results40 rfl ?_
    first
    | exact ⟨vb (by unfold movB; rw [hob]; simp only [decide_eq_true_eq, Bool.and_eq_true]; omega), hE⟩
    | exact ⟨vb (by unfold movB; rw [decide_eq_false hge]; simp), hE⟩
end Go.Proofs.Yteicgnmggkhlbaa
