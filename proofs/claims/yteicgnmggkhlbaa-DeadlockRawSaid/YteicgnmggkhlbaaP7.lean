/-
  Walks of the functions, printed by a program out of the code and the loops' relations.
-/
import Derived.Test.YteicgnmggkhlbaaWkS
import Derived.Test.YteicgnmggkhlbaaProg
import Derived.KernelRfl
import Derived.Test.YteicgnmggkhlbaaP6
namespace Go.Proofs.Yteicgnmggkhlbaa
open Go.Wk Go.RowKit
set_option linter.unusedVariables false
set_option linter.unusedSimpArgs false
theorem bsl22_1 (a0 : Int) (w : World) : (Instr.buildSlice 22 1 [(0, (.int .i64 a0))].toArray).run Try.prog w = .ok (.slice (some ⟨w.heap.size, 0, none⟩) 1 1) (w.alloc (.cells [(.int .i64 a0)].toArray 3)) := by kernel_rfl
theorem cl15 : Callable Try.prog 15 := ⟨Try.call15⟩
theorem cl31 : Callable Try.prog 31 := ⟨Try.call31⟩
theorem cl37 : Callable Try.prog 37 := ⟨Try.call37⟩
theorem cl39 : Callable Try.prog 39 := ⟨Try.call39⟩
theorem cl40 : Callable Try.prog 40 := ⟨Try.call40⟩
set_option maxRecDepth 100000 in
theorem infoz3 : ∃ i, Try.prog.info? 3 = some i ∧ i.zero = some (.int .i64 0) ∧ i.size = 1 ∧ i.bytes = 8 ∧ (Value.cells (.int .i64 0)).size = 1 := ⟨Try.t3, Try.type3, rfl, rfl, rfl, rfl⟩

theorem bldS (d : Option Addr) (l c : Nat) (w : World) : (Instr.build 79 [(0, .slice d l c)].toArray).run Try.prog w = .ok (.agg (stC (.slice d l c) (List.replicate 10 0) (List.replicate 144 0)).toArray) w := by kernel_rfl
theorem fillS {r : Nat} (h : r < 144) : (List.replicate r (-1 : Int) ++ List.replicate (144 - r) 0).set r (-1) = List.replicate (r + 1) (-1) ++ List.replicate (144 - (r + 1)) 0 := by
  rw [List.set_append_right _ _ (by simp)]
  simp only [List.length_replicate, Nat.sub_self]
  rw [show 144 - r = (144 - (r + 1)) + 1 by omega, List.replicate_succ, List.set_cons_zero, List.replicate_succ', List.append_assoc]
  rfl
theorem pad_next {l : List Int} {k : Nat} (h : (k : Int) < l.length) (h10 : l.length ≤ 10) : (pad (l.take k)).set k (el l (k : Int)) = pad (l.take (k + 1)) := by
  unfold pad
  have e1 : (l.take k).length = k := by simp; omega
  have e2 : (l.take (k + 1)).length = k + 1 := by simp; omega
  rw [List.set_append_right _ _ (by omega), e1, e2, Nat.sub_self, show 10 - k = (10 - (k + 1)) + 1 by omega, List.replicate_succ, List.set_cons_zero, tkS h, List.append_assoc]
  rfl
theorem pad_tk {l : List Int} {k u : Nat} (h : u < k) (hk : k ≤ l.length) : el (pad (l.take k)) (u : Int) = el l (u : Int) := by
  rw [pad_el (by omega) (by simp; omega)]
  simp only [el, List.getD_eq_getElem?_getD, Int.toNat_natCast]
  rw [List.getElem?_take, if_pos h]
theorem HOk.start {rows : List Pw} {A : List Int} : HOk rows A (List.replicate 144 (-1)) 0 := ⟨by simp, fun r h0 h1 => .inl ⟨elRep h0 (by simpa using h1), fun u hu => by omega⟩⟩
theorem go_pad {rows : List Pw} {at_ : List Int} (h : GoP rows at_) {t : Nat} (ht : t < rows.length) : el (pad at_) (t : Int) = el at_ (t : Int) := pad_el (by omega) (by have := h.len; omega)

set_option maxHeartbeats 1000000 in
set_option maxRecDepth 100000 in
theorem dead_newState_ok (rows : List Pw) (ap : Option Addr) (cp l_ h_ : Nat) (at_ : List Int) (aa : Option Addr) (ca la ha_ : Nat) (w : World) (hP : PIn l_ h_ w ap rows) (hpn : (rows.length : Int) ≤ 9223372036854775807) (hA : Ints la ha_ w aa at_) (hva : VaP rows) (hg : GoP rows at_) : Cal Try.prog 37 [.slice ap rows.length cp, .slice aa at_.length ca] w (fun v w' => ∃ b H, v = .pointer (some ⟨b, 0, none⟩) ∧ w.heap.size ≤ b ∧ Blk w' b (stC (.slice ap rows.length cp) (pad at_) H) ∧ HOk rows (pad at_) H rows.length ∧ Ext w w') := by
  replace hP := hP.full
  replace hA := Ints.full hA
  have hl := hg.len
  have hrl := hva.len
  have hE : Out 0 0 w w := Out.refl _ _ w
  refine enter Try.func37 rfl Try.ntmps37 rfl ?_
  refine wp_seq ?_
  refine rg ?_
  refine st (asP rfl) ?_
  refine rg_end ?_
  refine n_then ?_
  refine wp_seq ?_
  refine rg ?_
  refine st (mvS rfl) ?_
  refine st (y_build (bldS _ _ _ _) rfl) ?_
  refine sd (d_boxA rfl ?_)
  intro bst w1 hbbst hs3 ho2 hbst
  have hz4 := ho2.size
  replace hP := hP.ext ho2
  replace hA := hA.ext ho2
  replace hE := hE.step ho2 (.inl (Nat.le_refl _))
  refine st (asP rfl) ?_
  refine rg_end ?_
  refine n_then ?_
  refine wp_seq ?_
  refine wp_seq ?_
  refine rg ?_
  refine st (mvI rfl) ?_
  refine rg_end ?_
  refine n_then ?_
  refine wp_block ?_
  refine lp (γ := Nat) [6, 12, 13, 14, 15, 16, 17, 18, 19, 20] (fun r => [(12, .int .i64 (r : Int))]) (fun r w_ => Out bst (bst + 1) w1 w_ ∧ (r : Int) ≤ 144 ∧ Blk w_ bst (stC (.slice ap rows.length cp) (List.replicate 10 0) (List.replicate r (-1) ++ List.replicate (144 - r) 0))) (fun r => 144 - r) 0 ⟨rfl, trivial⟩ ⟨Out.refl _ _ _, by omega, hbst⟩ ?_
  rintro r hav_ w5 ⟨ho6, hr_, hbst⟩
  have hlp0 := ho6
  have hz7 := ho6.size
  replace hP := hP.out ho6 (by first | omega | (simp only [blk_some, hi1_some] at *; omega))
  replace hA := hA.out ho6 (by first | omega | (simp only [blk_some, hi1_some] at *; omega))
  replace hE := hE.step ho6 (by first | omega | (simp only [blk_some, hi1_some] at *; omega))
  refine wp_seq ?_
  refine rg ?_
  refine st (y_lss rfl rfl) ?_
  refine rg_end ?_
  refine n_then ?_
  refine wp_seq ?_
  refine cnd rfl (fun hc0 => ?_) (fun hc0 => ?_)
  ·
    try simp only [decide_eq_true_eq, decide_eq_false_iff_not, Bool.not_eq_true', Bool.not_eq_false', Bool.and_eq_true, Bool.or_eq_true, Bool.or_eq_false_iff, Bool.cond_true_right, Bool.cond_false_right, Bool.cond_true_left, Bool.cond_false_left, ne_eq, Decidable.not_not, bne_iff_ne, beq_iff_eq, beq_eq_false_iff_ne, Bool.not_true, Bool.not_false] at hc0
    refine wp_skip ?_
    refine n_then ?_
    refine wp_seq ?_
    refine wp_block ?_
    refine wp_seq ?_
    refine rg ?_
    refine st (mvI rfl) ?_
    refine st (asI rfl) ?_
    refine rg_end ?_
    refine n_then ?_
    refine rg ?_
    refine st (mvP rfl) ?_
    refine st (mvI rfl) ?_
    refine st (y_nil rfl) ?_
    refine st (y_fld fld79_2 rfl) ?_
    refine st (y_ixF Try.underlying77 sz3 rfl rfl (by omega) (by omega)) ?_
    refine sd0 (d_st (v := .int .i64 _) hbst sz3 rfl rfl rfl (by rw [stC_len]; simp; omega) ?_)
    intro w8 hs10 ho9 hbst'
    rw [stC_setH (i := (r : Int).toNat) (by simp)] at hbst'
    clear hbst; have hbst := hbst'; clear hbst'
    have hz11 := ho9.size
    replace hP := hP.out ho9 (by first | omega | (simp only [blk_some, hi1_some] at *; omega))
    replace hA := hA.out ho9 (by first | omega | (simp only [blk_some, hi1_some] at *; omega))
    replace hE := hE.step ho9 (by first | omega | (simp only [blk_some, hi1_some] at *; omega))
    replace hlp0 := hlp0.step ho9 (by first | omega | (simp only [blk_some, hi1_some] at *; omega))
    rw [Int.toNat_natCast, fillS (by omega)] at hbst
    refine rg_end ?_
    refine n_blk ?_
    refine n_then ?_
    refine rg ?_
    refine st (y_add rfl rfl (by omega)) ?_
    refine st (mvI rfl) ?_
    refine rg_end ?_
    exact n_then ⟨r + 1, _, rfl, same_lk rfl (same_h0), ⟨rfl, trivial⟩, ⟨hlp0, by omega, hbst⟩, by first | omega | (dsimp only; omega)⟩
  ·
    try simp only [decide_eq_true_eq, decide_eq_false_iff_not, Bool.not_eq_true', Bool.not_eq_false', Bool.and_eq_true, Bool.or_eq_true, Bool.or_eq_false_iff, Bool.cond_true_right, Bool.cond_false_right, Bool.cond_true_left, Bool.cond_false_left, ne_eq, Decidable.not_not, bne_iff_ne, beq_iff_eq, beq_eq_false_iff_ne, Bool.not_true, Bool.not_false] at hc0
    have hr144 : r = 144 := by omega
    subst hr144
    refine wp_exit ?_
    refine e_then (e_then (e_blk (?_)))
    refine n_then ?_
    refine wp_seq ?_
    refine wp_seq ?_
    refine rg ?_
    refine st (mvS rfl) ?_
    refine st (y_len Try.underlying22 rfl) ?_
    refine st (mvI rfl) ?_
    refine rg_end ?_
    refine n_then ?_
    refine wp_block ?_
    refine lp (γ := Nat × List Int) [7, 8, 23, 24, 25, 26, 27, 28, 29, 30, 31, 32, 33, 34, 35, 36, 37, 38, 39] (fun ⟨k, H⟩ => [(23, .int .i64 (k : Int))]) (fun ⟨k, H⟩ w_ => Out bst (bst + 1) w5 w_ ∧ (k : Int) ≤ at_.length ∧ HOk rows (pad (at_.take k)) H k ∧ Blk w_ bst (stC (.slice ap rows.length cp) (pad (at_.take k)) H)) (fun ⟨k, H⟩ => at_.length - k) (0, List.replicate 144 (-1)) ⟨rfl, trivial⟩ ⟨Out.refl _ _ _, by omega, HOk.start, hbst⟩ ?_
    rintro ⟨k, H⟩ hav_ w12 ⟨ho13, hk_, hHq, hbst⟩
    have hlp1 := ho13
    have hz14 := ho13.size
    replace hP := hP.out ho13 (by first | omega | (simp only [blk_some, hi1_some] at *; omega))
    replace hA := hA.out ho13 (by first | omega | (simp only [blk_some, hi1_some] at *; omega))
    replace hE := hE.step ho13 (by first | omega | (simp only [blk_some, hi1_some] at *; omega))
    refine wp_seq ?_
    refine rg ?_
    refine st (y_lss rfl rfl) ?_
    refine rg_end ?_
    refine n_then ?_
    refine wp_seq ?_
    refine cnd rfl (fun hc1 => ?_) (fun hc1 => ?_)
    ·
      try simp only [decide_eq_true_eq, decide_eq_false_iff_not, Bool.not_eq_true', Bool.not_eq_false', Bool.and_eq_true, Bool.or_eq_true, Bool.or_eq_false_iff, Bool.cond_true_right, Bool.cond_false_right, Bool.cond_true_left, Bool.cond_false_left, ne_eq, Decidable.not_not, bne_iff_ne, beq_iff_eq, beq_eq_false_iff_ne, Bool.not_true, Bool.not_false] at hc1
      have hgk := hg.rng k (by omega)
      have hrk := va_row hva (k := k) (by omega)
      have hl2 := hrk.l2
      refine wp_skip ?_
      refine n_then ?_
      refine wp_seq ?_
      refine wp_block ?_
      refine wp_seq ?_
      refine rg ?_
      refine st (mvI rfl) ?_
      refine st (y_ix hA sl22 rfl (rfl) rfl (by omega) (by omega)) ?_
      refine st (y_le hA na3 rfl (by omega) (by omega) rfl) ?_
      refine st (asI rfl) ?_
      refine st (asI rfl) ?_
      refine rg_end ?_
      refine n_then ?_
      refine wp_seq ?_
      refine rg ?_
      refine st (mvP rfl) ?_
      refine st (mvI rfl) ?_
      refine st (mvI rfl) ?_
      refine st (y_conv rfl rfl Try.underlying74) ?_
      rw [i8_in (by omega)]
      refine st (y_nil rfl) ?_
      refine st (y_fld fld79_1 rfl) ?_
      refine st (y_ixF Try.underlying76 sz74 rfl rfl (by omega) (by omega)) ?_
      refine sd0 (d_st (v := .int .i8 _) hbst sz74 rfl rfl rfl (by rw [stC_len, pad_len (by simp; omega)]; omega) ?_)
      intro w15 hs17 ho16 hbst'
      rw [stC_setA (i := (k : Int).toNat) (by rw [pad_len (by simp; omega)]; omega)] at hbst'
      clear hbst; have hbst := hbst'; clear hbst'
      have hz18 := ho16.size
      replace hP := hP.out ho16 (by first | omega | (simp only [blk_some, hi1_some] at *; omega))
      replace hA := hA.out ho16 (by first | omega | (simp only [blk_some, hi1_some] at *; omega))
      replace hE := hE.step ho16 (by first | omega | (simp only [blk_some, hi1_some] at *; omega))
      replace hlp1 := hlp1.step ho16 (by first | omega | (simp only [blk_some, hi1_some] at *; omega))
      rw [Int.toNat_natCast, pad_next hc1 (by omega)] at hbst
      have hek : el (pad (at_.take (k + 1))) (k : Int) = el at_ (k : Int) := pad_tk (by omega) (by omega)
      have hHq1 : HOk rows (pad (at_.take (k + 1))) H k := hHq.congr (fun u hu => by rw [pad_tk hu (by omega), pad_tk (by omega) (by omega)])
      have hHq2 := hHq1.put hva (by omega)
      refine rg_end ?_
      refine n_then ?_
      refine rg ?_
      refine st (mvP rfl) ?_
      refine st (mvI rfl) ?_
      refine st (mvI rfl) ?_
      refine sc cl48 (dead_hold_ok rows ap cp _ _ bst (pad (at_.take (k + 1))) H k (k : Int) _ hP hbst hva (by omega) (pad_len (by simp; omega)) hHq.len (by omega) (by rw [hek]; exact hgk)) rfl ?_
      rintro v23 w19 ⟨rfl, hbst', ho20⟩
      clear hbst; have hbst := hbst'; clear hbst'
      have hz24 := ho20.size
      replace hP := hP.out ho20 (by first | omega | (simp only [blk_some, hi1_some] at *; omega))
      replace hA := hA.out ho20 (by first | omega | (simp only [blk_some, hi1_some] at *; omega))
      replace hE := hE.step ho20 (by first | omega | (simp only [blk_some, hi1_some] at *; omega))
      replace hlp1 := hlp1.step ho20 (by first | omega | (simp only [blk_some, hi1_some] at *; omega))
      refine rg_end ?_
      refine n_blk ?_
      refine n_then ?_
      refine rg ?_
      refine st (y_add rfl rfl (by omega)) ?_
      refine st (mvI rfl) ?_
      refine rg_end ?_
      exact n_then ⟨(k + 1, _), _, rfl, same_lk rfl (same_h0), ⟨rfl, trivial⟩, ⟨hlp1, by omega, hHq2, hbst⟩, by first | omega | (dsimp only; omega)⟩
    ·
      try simp only [decide_eq_true_eq, decide_eq_false_iff_not, Bool.not_eq_true', Bool.not_eq_false', Bool.and_eq_true, Bool.or_eq_true, Bool.or_eq_false_iff, Bool.cond_true_right, Bool.cond_false_right, Bool.cond_true_left, Bool.cond_false_left, ne_eq, Decidable.not_not, bne_iff_ne, beq_iff_eq, beq_eq_false_iff_ne, Bool.not_true, Bool.not_false] at hc1
      have hke : k = at_.length := by omega
      subst hke
      rw [List.take_length] at hbst hHq
      refine wp_exit ?_
      refine e_then (e_then (e_blk (?_)))
      refine n_then ?_
      refine wp_seq ?_
      refine rg ?_
      refine st (mvP rfl) ?_
      refine st (asP rfl) ?_
      refine rg_end ?_
      refine n_then ?_
      refine wp_ret ?_
      refine ret1 (v := (.pointer _)) Try.results37 rfl ?_
      exact ⟨bst, H, rfl, by omega, hbst, by rw [← hl]; exact hHq, hE⟩

theorem slE {a : Option Addr} {m n c : Nat} (h : m = n) : Value.slice a m c = Value.slice a n c := by rw [h]
def movs (rows : List Pw) (at_ : List Int) (k : Nat) : List Int := ((List.range k).filter fun (t : Nat) => movB rows at_ (t : Int)).map fun (t : Nat) => (t : Int)
theorem movs_S {rows : List Pw} {at_ : List Int} {k : Nat} : movs rows at_ (k + 1) = if movB rows at_ (k : Int) = true then movs rows at_ k ++ [(k : Int)] else movs rows at_ k := by
  unfold movs
  rw [List.range_succ, List.filter_append, List.map_append]
  by_cases h : movB rows at_ (k : Int) = true
  · rw [if_pos h]; simp [h]
  · rw [if_neg h]; simp [h]
theorem movs_len {rows : List Pw} {at_ : List Int} {k : Nat} : (movs rows at_ k).length ≤ k := by
  unfold movs
  rw [List.length_map]
  exact Nat.le_trans (List.length_filter_le _ _) (by simp)
theorem blkT_congr {rows : List Pw} {A B : List Int} {t : Int} : ∀ {k : Nat}, (∀ u : Nat, u < k → el A (u : Int) = el B (u : Int)) → el A t = el B t → blkT rows A t k = blkT rows B t k
  | 0, _, _ => rfl
  | k + 1, h, ht => by rw [blkT, blkT, blkT_congr (fun u hu => h u (by omega)) ht, secT_congr (h k (by omega)), ht]
theorem movB_congr {rows : List Pw} {A B : List Int} (h : ∀ u : Nat, u < rows.length → el A (u : Int) = el B (u : Int)) {t : Nat} (ht : t < rows.length) : movB rows A (t : Int) = movB rows B (t : Int) := by
  unfold movB blocT; rw [h t ht, blkT_congr h (h t ht)]
theorem hel_congr {rows : List Pw} {A B : List Int} (h : ∀ u : Nat, u < rows.length → el A (u : Int) = el B (u : Int)) (k : Hel rows A) : Hel rows B := by
  obtain ⟨a, b, ha, hb, h1, h2⟩ := k
  rw [secT_congr (h a ha)] at h1 h2
  rw [secT_congr (h b (by omega))] at h2
  exact ⟨a, b, ha, hb, h1, h2⟩
theorem CkR.ok {rows : List Pw} {at_ : List Int} (h : CkR rows at_ 0) : VaP rows ∧ GoP rows at_ ∧ ¬ Hel rows at_ := by
  refine Classical.byContradiction fun hn => ?_
  by_cases h1 : VaP rows ∧ GoP rows at_
  · by_cases h2 : Hel rows at_
    · have := h.b h1.1 h1.2 h2; omega
    · exact hn ⟨h1.1, h1.2, h2⟩
  · have := h.a h1; omega
theorem CkR.of {rows : List Pw} {at_ : List Int} {e : Int} (h : CkR rows at_ e) (h1 : VaP rows) (h2 : GoP rows at_) (h3 : ¬ Hel rows at_) : e = 0 := h.c h1 h2 h3
/-- What Moves hands back. -/
def mvL (rows : List Pw) (at_ : List Int) (l : List Int) : Prop := ∀ e, CkR rows at_ e → (e ≠ 0 → l = []) ∧ (e = 0 → l = movs rows at_ rows.length)

set_option maxHeartbeats 1000000 in
set_option maxRecDepth 100000 in
theorem ref35_Moves_ok (rows : List Pw) (ap : Option Addr) (cp l_ h_ : Nat) (at_ : List Int) (aa : Option Addr) (ca la ha_ : Nat) (w : World) (hP : PIn l_ h_ w ap rows) (hpn : (rows.length : Int) ≤ 9223372036854775807) (hA : Ints la ha_ w aa at_) (hln : ∀ r ∈ rows, (r.st.length : Int) ≤ 9223372036854775807 ∧ ∀ s ∈ r.st, (s.pts.length : Int) ≤ 9223372036854775807) (han : (at_.length : Int) ≤ 9223372036854775807) : Cal Try.prog 20 [.slice ap rows.length cp, .slice aa at_.length ca] w (fun v w' => ∃ ad c l, v = .slice ad l.length c ∧ Ow 3 encI 1 w.heap.size w'.heap.size w' ad c l ∧ (∀ e, CkR rows at_ e → (e ≠ 0 → l = []) ∧ (e = 0 → l = movs rows at_ rows.length)) ∧ Ext w w') := by
  replace hP := hP.full
  replace hA := Ints.full hA
  have hE : Out 0 0 w w := Out.refl _ _ w
  refine enter Try.func20 rfl Try.ntmps20 rfl ?_
  refine wp_seq ?_
  refine rg ?_
  refine st (asS rfl) ?_
  refine rg_end ?_
  refine n_then ?_
  refine wp_seq ?_
  refine wp_seq ?_
  refine rg ?_
  refine st (mvS rfl) ?_
  refine st (mvS rfl) ?_
  refine sc cl15 (ref35_CheckState_ok rows _ _ _ _ at_ _ _ _ _ _ hP hpn hA hln han) rfl ?_
  rintro v5 w1 ⟨e, rfl, hck, ho2⟩
  have hz6 := ho2.size
  replace hP := hP.ext ho2
  replace hA := hA.ext ho2
  replace hE := hE.step ho2 (.inl (Nat.le_refl _))
  refine st (y_neq rfl rfl) ?_
  refine rg_end ?_
  refine n_then ?_
  refine cnd rfl (fun hc0 => ?_) (fun hc0 => ?_)
  ·
    try simp only [decide_eq_true_eq, decide_eq_false_iff_not, Bool.not_eq_true', Bool.not_eq_false', Bool.and_eq_true, Bool.or_eq_true, Bool.or_eq_false_iff, Bool.cond_true_right, Bool.cond_false_right, Bool.cond_true_left, Bool.cond_false_left, ne_eq, Decidable.not_not, bne_iff_ne, beq_iff_eq, beq_eq_false_iff_ne, Bool.not_true, Bool.not_false] at hc0
    refine wp_seq ?_
    refine rg ?_
    refine st (asS rfl) ?_
    refine rg_end ?_
    refine n_then ?_
    refine wp_ret ?_
    refine r_then (ret1 (v := (.slice _ _ _)) Try.results20 rfl ?_)
    exact ⟨none, 0, [], rfl, Ow.nil (fun _ => rfl), fun e' he' => ⟨fun _ => rfl, fun q => absurd ((hck.uniq he').trans q) hc0⟩, hE⟩
  ·
    try simp only [decide_eq_true_eq, decide_eq_false_iff_not, Bool.not_eq_true', Bool.not_eq_false', Bool.and_eq_true, Bool.or_eq_true, Bool.or_eq_false_iff, Bool.cond_true_right, Bool.cond_false_right, Bool.cond_true_left, Bool.cond_false_left, ne_eq, Decidable.not_not, bne_iff_ne, beq_iff_eq, beq_eq_false_iff_ne, Bool.not_true, Bool.not_false] at hc0
    have hck0 := hck
    rw [hc0] at hck0
    obtain ⟨hva, hg, hnh⟩ := hck0.ok
    have hrl := hva.len
    refine wp_skip ?_
    refine n_then ?_
    refine wp_seq ?_
    refine rg ?_
    refine st (asS rfl) ?_
    refine rg_end ?_
    refine n_then ?_
    refine wp_seq ?_
    refine wp_seq ?_
    refine rg ?_
    refine st (mvS rfl) ?_
    refine st (y_len Try.underlying23 rfl) ?_
    refine st (mvI rfl) ?_
    refine rg_end ?_
    refine n_then ?_
    refine wp_block ?_
    obtain ⟨z0, hz0⟩ : ∃ z, z = w1.heap.size := ⟨_, rfl⟩
    refine lp (γ := Nat × Option Addr × Nat) [5, 6, 13, 14, 15, 16, 17, 18, 19, 20, 21, 22, 23, 24] (fun ⟨k, ad, c⟩ => [(13, .int .i64 (k : Int)), (5, .slice ad (movs rows at_ k).length c)]) (fun ⟨k, ad, c⟩ w_ => Out z0 z0 w1 w_ ∧ (k : Int) ≤ rows.length ∧ Ow 3 encI 1 z0 w_.heap.size w_ ad c (movs rows at_ k)) (fun ⟨k, ad, c⟩ => rows.length - k) (0, none, 0) ⟨rfl, rfl, trivial⟩ ⟨Out.refl _ _ _, by omega, Ow.nil (enc := encI) (sz := 1) (fun _ => rfl)⟩ ?_
    rintro ⟨k, ad, c⟩ hav_ w7 ⟨ho8, hk_, hm⟩
    have hlp0 := ho8
    have hz9 := ho8.size
    replace hP := hP.out ho8 (by first | omega | (simp only [blk_some, hi1_some] at *; omega))
    replace hA := hA.out ho8 (by first | omega | (simp only [blk_some, hi1_some] at *; omega))
    replace hE := hE.step ho8 (by first | omega | (simp only [blk_some, hi1_some] at *; omega))
    refine wp_seq ?_
    refine rg ?_
    refine st (y_lss rfl rfl) ?_
    refine rg_end ?_
    refine n_then ?_
    refine wp_seq ?_
    refine cnd rfl (fun hc1 => ?_) (fun hc1 => ?_)
    ·
      try simp only [decide_eq_true_eq, decide_eq_false_iff_not, Bool.not_eq_true', Bool.not_eq_false', Bool.and_eq_true, Bool.or_eq_true, Bool.or_eq_false_iff, Bool.cond_true_right, Bool.cond_false_right, Bool.cond_true_left, Bool.cond_false_left, ne_eq, Decidable.not_not, bne_iff_ne, beq_iff_eq, beq_eq_false_iff_ne, Bool.not_true, Bool.not_false] at hc1
      refine wp_skip ?_
      refine n_then ?_
      refine wp_seq ?_
      refine wp_block ?_
      refine wp_seq ?_
      refine rg ?_
      refine st (mvI rfl) ?_
      refine st (asI rfl) ?_
      refine rg_end ?_
      refine n_then ?_
      refine wp_seq ?_
      refine rg ?_
      refine st (mvS rfl) ?_
      refine st (mvS rfl) ?_
      refine st (mvI rfl) ?_
      refine sc cl39 (ref35_movable_ok rows _ _ _ _ at_ _ _ _ _ k _ hP hpn hA hg (by omega) hva) rfl ?_
      rintro v14 w10 ⟨rfl, ho11⟩
      have hz15 := ho11.size
      replace hP := hP.ext ho11
      replace hA := hA.ext ho11
      replace hE := hE.step ho11 (.inl (Nat.le_refl _))
      replace hm := hm.ext ho11
      replace hlp0 := hlp0.step ho11 (.inl (Nat.le_refl _))
      refine rg_end ?_
      refine n_then ?_
      refine cnd rfl (fun hc2 => ?_) (fun hc2 => ?_)
      ·
        try simp only [decide_eq_true_eq, decide_eq_false_iff_not, Bool.not_eq_true', Bool.not_eq_false', Bool.and_eq_true, Bool.or_eq_true, Bool.or_eq_false_iff, Bool.cond_true_right, Bool.cond_false_right, Bool.cond_true_left, Bool.cond_false_left, ne_eq, Decidable.not_not, bne_iff_ne, beq_iff_eq, beq_eq_false_iff_ne, Bool.not_true, Bool.not_false] at hc2
        refine rg ?_
        refine st (mvS rfl) ?_
        refine st (mvI rfl) ?_
        refine sd (d_bs (bsl22_1 _ _) rfl ?_)
        intro bl19 w16 hbbl19 hs18 ho17 hbl19
        have hz20 := ho17.size
        replace hP := hP.ext ho17
        replace hA := hA.ext ho17
        replace hE := hE.step ho17 (.inl (Nat.le_refl _))
        replace hm := hm.ext ho17
        replace hlp0 := hlp0.step ho17 (.inl (Nat.le_refl _))
        have hrhm := hm.rng
        refine sd (d_app (xs := [(k : Int)]) hm sl22 infoz3 (by decide) rfl rfl rfl rfl (hbl19) (fun _ => rfl) (by have := movs_len (rows := rows) (at_ := at_) (k := k); simp; unfold maxLen; omega) (by have := movs_len (rows := rows) (at_ := at_) (k := k); simp; omega) (by omega) (by omega) ?_)
        intro ad1 c1 w21 ho22 hm'
        have hs23 := ho22.size
        clear hm; have hm := hm'; clear hm'
        have hz26 := ho22.size
        replace hP := hP.out ho22 (by first | omega | (simp only [blk_some, hi1_some] at *; omega))
        replace hA := hA.out ho22 (by first | omega | (simp only [blk_some, hi1_some] at *; omega))
        replace hE := hE.step ho22 (by first | omega | (simp only [blk_some, hi1_some] at *; omega))
        replace hlp0 := hlp0.step ho22 (by first | omega | (simp only [blk_some, hi1_some] at *; omega))
        refine st (asS rfl) ?_
        refine rg_end ?_
        refine n_blk ?_
        refine n_then ?_
        refine rg ?_
        refine st (y_add rfl rfl (by omega)) ?_
        refine st (mvI rfl) ?_
        refine rg_end ?_
        have hms := movs_S (rows := rows) (at_ := at_) (k := k)
        first
        | (rw [if_pos (by assumption)] at hms; rw [← hms] at hm)
        | (rw [if_neg (by rw [show movB rows at_ (k : Int) = false by assumption]; decide)] at hms; rw [← hms] at hm)
        exact n_then ⟨(k + 1, _, _), _, rfl, same_lk rfl (same_h0), ⟨rfl, slE (congrArg List.length hms.symm), trivial⟩, ⟨hlp0, by omega, hm.wide (by omega)⟩, by first | omega | (dsimp only; omega)⟩
      ·
        try simp only [decide_eq_true_eq, decide_eq_false_iff_not, Bool.not_eq_true', Bool.not_eq_false', Bool.and_eq_true, Bool.or_eq_true, Bool.or_eq_false_iff, Bool.cond_true_right, Bool.cond_false_right, Bool.cond_true_left, Bool.cond_false_left, ne_eq, Decidable.not_not, bne_iff_ne, beq_iff_eq, beq_eq_false_iff_ne, Bool.not_true, Bool.not_false] at hc2
        refine wp_skip ?_
        refine n_blk ?_
        refine n_then ?_
        refine rg ?_
        refine st (y_add rfl rfl (by omega)) ?_
        refine st (mvI rfl) ?_
        refine rg_end ?_
        have hms := movs_S (rows := rows) (at_ := at_) (k := k)
        first
        | (rw [if_pos (by assumption)] at hms; rw [← hms] at hm)
        | (rw [if_neg (by rw [show movB rows at_ (k : Int) = false by assumption]; decide)] at hms; rw [← hms] at hm)
        exact n_then ⟨(k + 1, _, _), _, rfl, same_lk rfl (same_h0), ⟨rfl, slE (congrArg List.length hms.symm), trivial⟩, ⟨hlp0, by omega, hm.wide (by omega)⟩, by first | omega | (dsimp only; omega)⟩
    ·
      try simp only [decide_eq_true_eq, decide_eq_false_iff_not, Bool.not_eq_true', Bool.not_eq_false', Bool.and_eq_true, Bool.or_eq_true, Bool.or_eq_false_iff, Bool.cond_true_right, Bool.cond_false_right, Bool.cond_true_left, Bool.cond_false_left, ne_eq, Decidable.not_not, bne_iff_ne, beq_iff_eq, beq_eq_false_iff_ne, Bool.not_true, Bool.not_false] at hc1
      have hke : k = rows.length := by omega
      subst hke
      refine wp_exit ?_
      refine e_then (e_then (e_blk (?_)))
      refine n_then ?_
      refine wp_seq ?_
      refine rg ?_
      refine st (mvS rfl) ?_
      refine st (asS rfl) ?_
      refine rg_end ?_
      refine n_then ?_
      refine wp_ret ?_
      refine ret1 (v := (.slice _ _ _)) Try.results20 rfl ?_
      exact ⟨ad, c, movs rows at_ rows.length, rfl, (hm.lower (by omega)).wide (by omega), fun e' he' => ⟨fun q => absurd ((he'.uniq hck).trans hc0) q, fun _ => rfl⟩, hE⟩

set_option maxHeartbeats 1000000 in
set_option maxRecDepth 100000 in
theorem dead_Moves_ok (rows : List Pw) (ap : Option Addr) (cp l_ h_ : Nat) (at_ : List Int) (aa : Option Addr) (ca la ha_ : Nat) (w : World) (hP : PIn l_ h_ w ap rows) (hpn : (rows.length : Int) ≤ 9223372036854775807) (hA : Ints la ha_ w aa at_) (hln : ∀ r ∈ rows, (r.st.length : Int) ≤ 9223372036854775807 ∧ ∀ s ∈ r.st, (s.pts.length : Int) ≤ 9223372036854775807) (han : (at_.length : Int) ≤ 9223372036854775807) : Cal Try.prog 23 [.slice ap rows.length cp, .slice aa at_.length ca] w (fun v w' => ∃ ad c l, v = .slice ad l.length c ∧ Ow 3 encI 1 w.heap.size w'.heap.size w' ad c l ∧ (∀ e, CkR rows at_ e → (e ≠ 0 → l = []) ∧ (e = 0 → l = movs rows at_ rows.length)) ∧ Ext w w') := by
  replace hP := hP.full
  replace hA := Ints.full hA
  have hE : Out 0 0 w w := Out.refl _ _ w
  refine enter Try.func23 rfl Try.ntmps23 rfl ?_
  refine wp_seq ?_
  refine rg ?_
  refine st (asS rfl) ?_
  refine rg_end ?_
  refine n_then ?_
  refine wp_seq ?_
  refine wp_seq ?_
  refine rg ?_
  refine st (mvS rfl) ?_
  refine st (mvS rfl) ?_
  refine sc cl31 (dead_Check_ok rows _ _ _ _ at_ _ _ _ _ _ hP hpn hA hln han) rfl ?_
  rintro v5 w1 ⟨e, rfl, hck, ho2⟩
  have hz6 := ho2.size
  replace hP := hP.ext ho2
  replace hA := hA.ext ho2
  replace hE := hE.step ho2 (.inl (Nat.le_refl _))
  refine st (y_neq rfl rfl) ?_
  refine rg_end ?_
  refine n_then ?_
  refine cnd rfl (fun hc0 => ?_) (fun hc0 => ?_)
  ·
    try simp only [decide_eq_true_eq, decide_eq_false_iff_not, Bool.not_eq_true', Bool.not_eq_false', Bool.and_eq_true, Bool.or_eq_true, Bool.or_eq_false_iff, Bool.cond_true_right, Bool.cond_false_right, Bool.cond_true_left, Bool.cond_false_left, ne_eq, Decidable.not_not, bne_iff_ne, beq_iff_eq, beq_eq_false_iff_ne, Bool.not_true, Bool.not_false] at hc0
    refine wp_seq ?_
    refine rg ?_
    refine st (asS rfl) ?_
    refine rg_end ?_
    refine n_then ?_
    refine wp_ret ?_
    refine r_then (ret1 (v := (.slice _ _ _)) Try.results23 rfl ?_)
    exact ⟨none, 0, [], rfl, Ow.nil (fun _ => rfl), fun e' he' => ⟨fun _ => rfl, fun q => absurd ((hck.uniq he').trans q) hc0⟩, hE⟩
  ·
    try simp only [decide_eq_true_eq, decide_eq_false_iff_not, Bool.not_eq_true', Bool.not_eq_false', Bool.and_eq_true, Bool.or_eq_true, Bool.or_eq_false_iff, Bool.cond_true_right, Bool.cond_false_right, Bool.cond_true_left, Bool.cond_false_left, ne_eq, Decidable.not_not, bne_iff_ne, beq_iff_eq, beq_eq_false_iff_ne, Bool.not_true, Bool.not_false] at hc0
    have hck0 := hck
    rw [hc0] at hck0
    obtain ⟨hva, hg, hnh⟩ := hck0.ok
    have hrl := hva.len
    have hl := hg.len
    have hpe : ∀ u : Nat, u < rows.length → el (pad at_) (u : Int) = el at_ (u : Int) := fun u hu => go_pad hg hu
    have hnh8 : ¬ Hel rows (pad at_) := fun q => hnh (hel_congr hpe q)
    refine wp_skip ?_
    refine n_then ?_
    refine wp_seq ?_
    refine rg ?_
    refine st (mvS rfl) ?_
    refine st (mvS rfl) ?_
    refine sc cl37 (dead_newState_ok rows _ _ _ _ at_ _ _ _ _ _ hP hpn hA hva hg) rfl ?_
    rintro v11 w7 ⟨bst, H, rfl, hbz, hbst, hHq, ho8⟩
    have hbl := hbst.lt
    have hz12 := ho8.size
    replace hP := hP.ext ho8
    replace hA := hA.ext ho8
    replace hE := hE.step ho8 (.inl (Nat.le_refl _))
    refine st (asP rfl) ?_
    refine rg_end ?_
    refine n_then ?_
    refine wp_seq ?_
    refine rg ?_
    refine st (asS rfl) ?_
    refine rg_end ?_
    refine n_then ?_
    refine wp_seq ?_
    refine wp_seq ?_
    refine rg ?_
    refine st (mvS rfl) ?_
    refine st (y_len Try.underlying23 rfl) ?_
    refine st (mvI rfl) ?_
    refine rg_end ?_
    refine n_then ?_
    refine wp_block ?_
    obtain ⟨z0, hz0⟩ : ∃ z, z = w7.heap.size := ⟨_, rfl⟩
    refine lp (γ := Nat × Option Addr × Nat) [6, 7, 17, 18, 19, 20, 21, 22, 23, 24, 25, 26, 27] (fun ⟨k, ad, c⟩ => [(17, .int .i64 (k : Int)), (6, .slice ad (movs rows at_ k).length c)]) (fun ⟨k, ad, c⟩ w_ => Out z0 z0 w7 w_ ∧ (k : Int) ≤ rows.length ∧ Ow 3 encI 1 z0 w_.heap.size w_ ad c (movs rows at_ k)) (fun ⟨k, ad, c⟩ => rows.length - k) (0, none, 0) ⟨rfl, rfl, trivial⟩ ⟨Out.refl _ _ _, by omega, Ow.nil (enc := encI) (sz := 1) (fun _ => rfl)⟩ ?_
    rintro ⟨k, ad, c⟩ hav_ w13 ⟨ho14, hk_, hm⟩
    have hlp0 := ho14
    have hz15 := ho14.size
    replace hP := hP.out ho14 (by first | omega | (simp only [blk_some, hi1_some] at *; omega))
    replace hA := hA.out ho14 (by first | omega | (simp only [blk_some, hi1_some] at *; omega))
    replace hE := hE.step ho14 (by first | omega | (simp only [blk_some, hi1_some] at *; omega))
    replace hbst := hbst.out ho14 (by first | omega | (simp only [blk_some, hi1_some] at *; omega))
    refine wp_seq ?_
    refine rg ?_
    refine st (y_lss rfl rfl) ?_
    refine rg_end ?_
    refine n_then ?_
    refine wp_seq ?_
    refine cnd rfl (fun hc1 => ?_) (fun hc1 => ?_)
    ·
      try simp only [decide_eq_true_eq, decide_eq_false_iff_not, Bool.not_eq_true', Bool.not_eq_false', Bool.and_eq_true, Bool.or_eq_true, Bool.or_eq_false_iff, Bool.cond_true_right, Bool.cond_false_right, Bool.cond_true_left, Bool.cond_false_left, ne_eq, Decidable.not_not, bne_iff_ne, beq_iff_eq, beq_eq_false_iff_ne, Bool.not_true, Bool.not_false] at hc1
      refine wp_skip ?_
      refine n_then ?_
      refine wp_seq ?_
      refine wp_block ?_
      refine wp_seq ?_
      refine rg ?_
      refine st (mvI rfl) ?_
      refine st (asI rfl) ?_
      refine rg_end ?_
      refine n_then ?_
      refine wp_seq ?_
      refine rg ?_
      refine st (mvP rfl) ?_
      refine st (mvI rfl) ?_
      refine sc cl40 (dead_canMove_ok rows ap cp _ _ bst (pad at_) H k _ hP hbst hva (by omega) (pad_len (by omega)) hHq.len (by omega) (by rw [hpe k (by omega)]; exact hg.rng k (by omega)) hHq hnh8) rfl ?_
      rintro v20 w16 ⟨rfl, ho17⟩
      rw [movB_congr hpe (by omega)]
      have hz21 := ho17.size
      replace hP := hP.ext ho17
      replace hA := hA.ext ho17
      replace hE := hE.step ho17 (.inl (Nat.le_refl _))
      replace hbst := hbst.ext ho17
      replace hm := hm.ext ho17
      replace hlp0 := hlp0.step ho17 (.inl (Nat.le_refl _))
      refine rg_end ?_
      refine n_then ?_
      refine cnd rfl (fun hc2 => ?_) (fun hc2 => ?_)
      ·
        try simp only [decide_eq_true_eq, decide_eq_false_iff_not, Bool.not_eq_true', Bool.not_eq_false', Bool.and_eq_true, Bool.or_eq_true, Bool.or_eq_false_iff, Bool.cond_true_right, Bool.cond_false_right, Bool.cond_true_left, Bool.cond_false_left, ne_eq, Decidable.not_not, bne_iff_ne, beq_iff_eq, beq_eq_false_iff_ne, Bool.not_true, Bool.not_false] at hc2
        refine rg ?_
        refine st (mvS rfl) ?_
        refine st (mvI rfl) ?_
        refine sd (d_bs (bsl22_1 _ _) rfl ?_)
        intro bl25 w22 hbbl25 hs24 ho23 hbl25
        have hz26 := ho23.size
        replace hP := hP.ext ho23
        replace hA := hA.ext ho23
        replace hE := hE.step ho23 (.inl (Nat.le_refl _))
        replace hbst := hbst.ext ho23
        replace hm := hm.ext ho23
        replace hlp0 := hlp0.step ho23 (.inl (Nat.le_refl _))
        have hrhm := hm.rng
        refine sd (d_app (xs := [(k : Int)]) hm sl22 infoz3 (by decide) rfl rfl rfl rfl (hbl25) (fun _ => rfl) (by have := movs_len (rows := rows) (at_ := at_) (k := k); simp; unfold maxLen; omega) (by have := movs_len (rows := rows) (at_ := at_) (k := k); simp; omega) (by omega) (by omega) ?_)
        intro ad1 c1 w27 ho28 hm'
        have hs29 := ho28.size
        clear hm; have hm := hm'; clear hm'
        have hz32 := ho28.size
        replace hP := hP.out ho28 (by first | omega | (simp only [blk_some, hi1_some] at *; omega))
        replace hA := hA.out ho28 (by first | omega | (simp only [blk_some, hi1_some] at *; omega))
        replace hE := hE.step ho28 (by first | omega | (simp only [blk_some, hi1_some] at *; omega))
        replace hbst := hbst.out ho28 (by first | omega | (simp only [blk_some, hi1_some] at *; omega))
        replace hlp0 := hlp0.step ho28 (by first | omega | (simp only [blk_some, hi1_some] at *; omega))
        refine st (asS rfl) ?_
        refine rg_end ?_
        refine n_blk ?_
        refine n_then ?_
        refine rg ?_
        refine st (y_add rfl rfl (by omega)) ?_
        refine st (mvI rfl) ?_
        refine rg_end ?_
        have hms := movs_S (rows := rows) (at_ := at_) (k := k)
        first
        | (rw [if_pos (by assumption)] at hms; rw [← hms] at hm)
        | (rw [if_neg (by rw [show movB rows at_ (k : Int) = false by assumption]; decide)] at hms; rw [← hms] at hm)
        exact n_then ⟨(k + 1, _, _), _, rfl, same_lk rfl (same_h0), ⟨rfl, slE (congrArg List.length hms.symm), trivial⟩, ⟨hlp0, by omega, hm.wide (by omega)⟩, by first | omega | (dsimp only; omega)⟩
      ·
        try simp only [decide_eq_true_eq, decide_eq_false_iff_not, Bool.not_eq_true', Bool.not_eq_false', Bool.and_eq_true, Bool.or_eq_true, Bool.or_eq_false_iff, Bool.cond_true_right, Bool.cond_false_right, Bool.cond_true_left, Bool.cond_false_left, ne_eq, Decidable.not_not, bne_iff_ne, beq_iff_eq, beq_eq_false_iff_ne, Bool.not_true, Bool.not_false] at hc2
        refine wp_skip ?_
        refine n_blk ?_
        refine n_then ?_
        refine rg ?_
        refine st (y_add rfl rfl (by omega)) ?_
        refine st (mvI rfl) ?_
        refine rg_end ?_
        have hms := movs_S (rows := rows) (at_ := at_) (k := k)
        first
        | (rw [if_pos (by assumption)] at hms; rw [← hms] at hm)
        | (rw [if_neg (by rw [show movB rows at_ (k : Int) = false by assumption]; decide)] at hms; rw [← hms] at hm)
        exact n_then ⟨(k + 1, _, _), _, rfl, same_lk rfl (same_h0), ⟨rfl, slE (congrArg List.length hms.symm), trivial⟩, ⟨hlp0, by omega, hm.wide (by omega)⟩, by first | omega | (dsimp only; omega)⟩
    ·
      try simp only [decide_eq_true_eq, decide_eq_false_iff_not, Bool.not_eq_true', Bool.not_eq_false', Bool.and_eq_true, Bool.or_eq_true, Bool.or_eq_false_iff, Bool.cond_true_right, Bool.cond_false_right, Bool.cond_true_left, Bool.cond_false_left, ne_eq, Decidable.not_not, bne_iff_ne, beq_iff_eq, beq_eq_false_iff_ne, Bool.not_true, Bool.not_false] at hc1
      have hke : k = rows.length := by omega
      subst hke
      refine wp_exit ?_
      refine e_then (e_then (e_blk (?_)))
      refine n_then ?_
      refine wp_seq ?_
      refine rg ?_
      refine st (mvS rfl) ?_
      refine st (asS rfl) ?_
      refine rg_end ?_
      refine n_then ?_
      refine wp_ret ?_
      refine ret1 (v := (.slice _ _ _)) Try.results23 rfl ?_
      exact ⟨ad, c, movs rows at_ rows.length, rfl, (hm.lower (by omega)).wide (by omega), fun e' he' => ⟨fun q => absurd ((he'.uniq hck).trans hc0) q, fun _ => rfl⟩, hE⟩
end Go.Proofs.Yteicgnmggkhlbaa
