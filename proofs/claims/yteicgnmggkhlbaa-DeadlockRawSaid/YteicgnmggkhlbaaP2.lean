/-
  Walks of the functions, printed by a program out of the code and the loops' relations.
-/
import Derived.Test.YteicgnmggkhlbaaWkG
import Derived.Test.YteicgnmggkhlbaaProg
import Derived.KernelRfl
import Derived.Test.YteicgnmggkhlbaaP1
namespace Go.Proofs.Yteicgnmggkhlbaa
open Go.Wk Go.RowKit
set_option linter.unusedVariables false
set_option linter.unusedSimpArgs false
theorem agg44 : AggOf Try.prog 44 4 := fun w => ⟨Try.isAgg44 w, Try.sizeOf44 w⟩
theorem cl47 : Callable Try.prog 47 := ⟨Try.call47⟩
theorem cl53 : Callable Try.prog 53 := ⟨Try.call53⟩
theorem mixed : Try.prog.follows .mixedOrders = true := by kernel_rfl
theorem na35 : NotAgg Try.prog 35 := Try.isAgg35
theorem na4 : NotAgg Try.prog 4 := Try.isAgg4
theorem sl23 : SliceOf Try.prog 23 35 1 := ⟨Try.underlying23, Try.sizeOf35⟩
theorem sl35 : SliceOf Try.prog 35 44 4 := ⟨Try.underlying35, Try.sizeOf44⟩
theorem sz4 : SzOf Try.prog 4 1 := Try.sizeOf4
theorem sz44 : SzOf Try.prog 44 4 := Try.sizeOf44
theorem zer44 : ZeroOf Try.prog 44 (.agg [.int .i64 0, .slice none 0 0, .int .i64 0, .int .i64 0].toArray) := Try.zeroValue44
theorem zerR70 : ZeroOf Try.prog 70 (.agg (List.replicate 144 (Value.bool false)).toArray) := fun w => by kernel_rfl
theorem zerC70 : ((List.replicate 144 (Value.bool false)).toArray).toList = (List.replicate 144 (false)).flatMap encB := by kernel_rfl

theorem va_row {rows : List Pw} (h : VaP rows) {k : Nat} (hk : (k : Int) < rows.length) : RowOk (el rows (k : Int)) := h.row _ (el_mem (by omega) hk)
theorem va_end {rows : List Pw} {S Q : List Bool} (hl : rows.length ≤ 10) (hr : ∀ i : Nat, i < rows.length → RowOk (el rows (i : Int))) (hS : MkS S (allS rows)) (hQ : MkQ Q (allS rows) []) (hn : ∀ r : Nat, r < 144 → ¬ (el S (r : Int) = true ∧ el Q (r : Int) = true)) : VaP rows := by
  have hrow : ∀ r ∈ rows, RowOk r := fun r hr' => by
    obtain ⟨i, hi, rfl⟩ := List.getElem_of_mem hr'
    have := hr i hi
    simpa [el, hi] using this
  refine ⟨hl, hrow, fun s hs s' hs' hm => ?_⟩
  obtain ⟨r, hr1, hm1⟩ := all_inv hs
  obtain ⟨j, hj, rfl⟩ := List.getElem_of_mem hm1
  have hsg := (hrow r hr1).sg j hj
  have e : el r.st (j : Int) = r.st[j] := by simp [el, hj]
  rw [e] at hsg
  obtain ⟨q, hq⟩ := Int.eq_ofNat_of_zero_le hsg.s0
  have h1 := hsg.s1
  refine hn q (by omega) ⟨(hS.2 (q : Int) (by omega) (by omega)).2 ⟨_, hs, hq⟩, (hQ.2 (q : Int) (by omega) (by omega)).2 (.inl ⟨_, hs', by rw [← hq]; exact hm⟩)⟩
theorem va_no {rows : List Pw} {S Q : List Bool} (hS : MkS S (allS rows)) (hQ : MkQ Q (allS rows) []) {r : Nat} (hr : r < 144) (h1 : el S (r : Int) = true) (h2 : el Q (r : Int) = true) : ¬ VaP rows := fun h => by
  obtain ⟨s, hs, e⟩ := (hS.2 (r : Int) (by omega) (by omega)).1 h1
  rcases (hQ.2 (r : Int) (by omega) (by omega)).1 h2 with ⟨s', hs', hm⟩ | hm
  · exact h.sep s hs s' hs' (by rw [e]; exact hm)
  · cases hm

set_option maxHeartbeats 2000000 in
set_option maxRecDepth 100000 in
theorem prec_Valid_ok (rows : List Pw) (ap : Option Addr) (cp l_ h_ : Nat) (w : World) (hP : PIn l_ h_ w ap rows) (hpn : (rows.length : Int) ≤ 9223372036854775807) (hln : ∀ r ∈ rows, (r.st.length : Int) ≤ 9223372036854775807 ∧ ∀ s ∈ r.st, (s.pts.length : Int) ≤ 9223372036854775807) : Cal Try.prog 45 [.slice ap rows.length cp] w (fun v w' => ∃ b, v = .bool b ∧ (b = true ↔ VaP rows) ∧ Ext w w') := by
  replace hP := hP.full
  have hE : Out 0 0 w w := Out.refl _ _ w
  refine enter Try.func45 rfl Try.ntmps45 rfl ?_
  refine wp_seq ?_
  refine rg ?_
  refine st (asB rfl) ?_
  refine rg_end ?_
  refine n_then ?_
  refine wp_seq ?_
  refine wp_seq ?_
  refine rg ?_
  refine st (mvS rfl) ?_
  refine st (y_len Try.underlying23 rfl) ?_
  refine st (y_gtr rfl rfl) ?_
  refine rg_end ?_
  refine n_then ?_
  refine cnd rfl (fun hc0 => ?_) (fun hc0 => ?_)
  ·
    try simp only [decide_eq_true_eq, decide_eq_false_iff_not, Bool.not_eq_true', Bool.not_eq_false', Bool.and_eq_true, Bool.or_eq_true, Bool.or_eq_false_iff, Bool.cond_true_right, Bool.cond_false_right, Bool.cond_true_left, Bool.cond_false_left, ne_eq, Decidable.not_not, bne_iff_ne, beq_iff_eq, beq_eq_false_iff_ne, Bool.not_true, Bool.not_false] at hc0
    have hno : ¬ VaP rows := fun h => by have := h.len; omega
    refine wp_seq ?_
    refine rg ?_
    refine st (asB rfl) ?_
    refine rg_end ?_
    refine n_then ?_
    refine wp_ret ?_
    refine r_then (ret1 (v := (.bool _)) Try.results45 rfl ?_)
    exact ⟨false, rfl, ⟨fun h => (by cases h), fun h => absurd h hno⟩, hE⟩
  ·
    try simp only [decide_eq_true_eq, decide_eq_false_iff_not, Bool.not_eq_true', Bool.not_eq_false', Bool.and_eq_true, Bool.or_eq_true, Bool.or_eq_false_iff, Bool.cond_true_right, Bool.cond_false_right, Bool.cond_true_left, Bool.cond_false_left, ne_eq, Decidable.not_not, bne_iff_ne, beq_iff_eq, beq_eq_false_iff_ne, Bool.not_true, Bool.not_false] at hc0
    have hlen : rows.length ≤ 10 := by omega
    refine wp_skip ?_
    refine n_then ?_
    refine wp_seq ?_
    refine rg ?_
    refine sd (d_allocR (sz := 1) (m := 144) (lo := w.heap.size) (enc := encB) (e0 := false) zerR70 zerC70 (fun _ => rfl) (by unfold maxLen; omega) (by omega) ?_)
    intro bS w1 hbbS hs3 ho2 hS
    have hz5 := ho2.size
    replace hP := hP.ext ho2
    replace hE := hE.step ho2 (.inl (Nat.le_refl _))
    refine sd (d_allocR (sz := 1) (m := 144) (lo := w.heap.size) (enc := encB) (e0 := false) zerR70 zerC70 (fun _ => rfl) (by unfold maxLen; omega) (by omega) ?_)
    intro bQ w6 hbbQ hs8 ho7 hQ
    have hz10 := ho7.size
    replace hP := hP.ext ho7
    replace hE := hE.step ho7 (.inl (Nat.le_refl _))
    replace hS := hS.ext ho7
    refine rg_end ?_
    refine n_then ?_
    refine wp_seq ?_
    refine wp_seq ?_
    refine rg ?_
    refine st (mvS rfl) ?_
    refine st (y_len Try.underlying23 rfl) ?_
    refine st (mvI rfl) ?_
    refine rg_end ?_
    refine n_then ?_
    refine wp_block ?_
    refine lp (γ := Nat × List Bool × List Bool) [2, 6, 7, 8, 10, 17, 18, 19, 20, 21, 22, 23, 24, 25, 26, 27, 28, 29, 30, 31, 32, 33, 34, 35, 36, 37, 38, 39, 40, 41, 42, 43, 44, 45, 46, 47, 48, 49, 50, 51, 52, 53, 54, 55, 56, 57, 58, 59, 60, 61, 62, 63, 64, 65, 66, 67, 68] (fun ⟨k, S, Q⟩ => [(17, .int .i64 (k : Int))]) (fun ⟨k, S, Q⟩ w_ => Out bS (bQ + 1) w6 w_ ∧ (k : Int) ≤ rows.length ∧ (∀ i : Nat, i < k → RowOk (el rows (i : Int))) ∧ MkS S (allS (rows.take k)) ∧ MkQ Q (allS (rows.take k)) [] ∧ Ow 70 encB 1 w.heap.size (bS + 1) w_ (some ⟨bS, 0, none⟩) 144 S ∧ Ow 70 encB 1 w.heap.size (bQ + 1) w_ (some ⟨bQ, 0, none⟩) 144 Q) (fun ⟨k, S, Q⟩ => rows.length - k) (0, List.replicate 144 false, List.replicate 144 false) ⟨rfl, trivial⟩ ⟨Out.refl _ _ _, by omega, (fun i hi => by omega), MkS.zero, MkQ.zero, hS, hQ⟩ ?_
    rintro ⟨k, S, Q⟩ hav_ w11 ⟨ho12, hk_, hrow, hMS, hMQ, hS, hQ⟩
    have hlp0 := ho12
    have hz13 := ho12.size
    replace hP := hP.out ho12 (by first | omega | (simp only [blk_some, hi1_some] at *; omega))
    replace hE := hE.step ho12 (by first | omega | (simp only [blk_some, hi1_some] at *; omega))
    refine wp_seq ?_
    refine rg ?_
    refine st (y_lss rfl rfl) ?_
    refine rg_end ?_
    refine n_then ?_
    refine wp_seq ?_
    refine cnd rfl (fun hc1 => ?_) (fun hc1 => ?_)
    ·
      try simp only [decide_eq_true_eq, decide_eq_false_iff_not, Bool.not_eq_true', Bool.not_eq_false', Bool.and_eq_true, Bool.or_eq_true, Bool.or_eq_false_iff, Bool.cond_true_right, Bool.cond_false_right, Bool.cond_true_left, Bool.cond_false_left, ne_eq, Decidable.not_not, bne_iff_ne, beq_iff_eq, beq_eq_false_iff_ne, Bool.not_true, Bool.not_false] at hc1
      have hmr := el_mem (l := rows) (i := (k : Int)) (by omega) hc1
      have hR := hP.row _ hmr
      have hrl := (hln _ hmr).1
      refine wp_skip ?_
      refine n_then ?_
      refine wp_seq ?_
      refine wp_block ?_
      refine wp_seq ?_
      refine rg ?_
      refine st (y_ix hP.tb sl23 rfl (rfl) rfl (by omega) (by omega)) ?_
      refine st (y_le hP.tb na35 rfl (by omega) (by omega) rfl) ?_
      refine st (asS rfl) ?_
      refine rg_end ?_
      refine n_then ?_
      refine wp_seq ?_
      refine wp_seq ?_
      refine rg ?_
      refine st (mvS rfl) ?_
      refine st (y_len Try.underlying35 rfl) ?_
      refine st (y_lss rfl rfl) ?_
      refine st (mvB rfl) ?_
      refine gspL 24 rfl (fun hg14 => ?_) (fun hg14 => ?_)
      ·
        have hg14n := hg14; try simp only [decide_eq_true_eq, decide_eq_false_iff_not, Bool.not_eq_true', Bool.not_eq_false', Bool.and_eq_true, Bool.or_eq_true, Bool.or_eq_false_iff, Bool.cond_true_right, Bool.cond_false_right, Bool.cond_true_left, Bool.cond_false_left, ne_eq, Decidable.not_not, bne_iff_ne, beq_iff_eq, beq_eq_false_iff_ne, Bool.not_true, Bool.not_false] at hg14n
        refine sts rfl rfl hg14 ?_
        refine sts rfl rfl hg14 ?_
        refine sts rfl rfl hg14 ?_
        refine st (y_pickT rfl hg14 (v := .bool _) rfl) ?_
        refine rg_end ?_
        refine n_then ?_
        refine cnd rfl (fun hc2 => ?_) (fun hc2 => absurd hc2 (by decide))
        have hno : ¬ VaP rows := fun h => by
          have h1 := (va_row h hc1).l1
          have h2 := (va_row h hc1).l2
          omega
        refine wp_seq ?_
        refine rg ?_
        refine st (asB rfl) ?_
        refine rg_end ?_
        refine n_then ?_
        refine wp_ret ?_
        refine r_then (r_blk (r_then (r_then (r_blk (r_then (ret1 (v := (.bool _)) Try.results45 rfl ?_))))))
        exact ⟨false, rfl, ⟨fun h => (by cases h), fun h => absurd h hno⟩, hE⟩
      ·
        have hg14n := hg14; try simp only [decide_eq_true_eq, decide_eq_false_iff_not, Bool.not_eq_true', Bool.not_eq_false', Bool.and_eq_true, Bool.or_eq_true, Bool.or_eq_false_iff, Bool.cond_true_right, Bool.cond_false_right, Bool.cond_true_left, Bool.cond_false_left, ne_eq, Decidable.not_not, bne_iff_ne, beq_iff_eq, beq_eq_false_iff_ne, Bool.not_true, Bool.not_false] at hg14n
        refine stg rfl rfl hg14 (mvS rfl) ?_
        refine stg rfl rfl hg14 (y_len Try.underlying35 rfl) ?_
        refine stg rfl rfl hg14 (y_gtr rfl rfl) ?_
        refine st (y_pickF rfl hg14 (v := .bool _) rfl) ?_
        refine rg_end ?_
        refine n_then ?_
        refine cnd rfl (fun hc2 => ?_) (fun hc2 => ?_)
        ·
          try simp only [decide_eq_true_eq, decide_eq_false_iff_not, Bool.not_eq_true', Bool.not_eq_false', Bool.and_eq_true, Bool.or_eq_true, Bool.or_eq_false_iff, Bool.cond_true_right, Bool.cond_false_right, Bool.cond_true_left, Bool.cond_false_left, ne_eq, Decidable.not_not, bne_iff_ne, beq_iff_eq, beq_eq_false_iff_ne, Bool.not_true, Bool.not_false] at hc2
          have hno : ¬ VaP rows := fun h => by
            have h1 := (va_row h hc1).l1
            have h2 := (va_row h hc1).l2
            omega
          refine wp_seq ?_
          refine rg ?_
          refine st (asB rfl) ?_
          refine rg_end ?_
          refine n_then ?_
          refine wp_ret ?_
          refine r_then (r_blk (r_then (r_then (r_blk (r_then (ret1 (v := (.bool _)) Try.results45 rfl ?_))))))
          exact ⟨false, rfl, ⟨fun h => (by cases h), fun h => absurd h hno⟩, hE⟩
        ·
          try simp only [decide_eq_true_eq, decide_eq_false_iff_not, Bool.not_eq_true', Bool.not_eq_false', Bool.and_eq_true, Bool.or_eq_true, Bool.or_eq_false_iff, Bool.cond_true_right, Bool.cond_false_right, Bool.cond_true_left, Bool.cond_false_left, ne_eq, Decidable.not_not, bne_iff_ne, beq_iff_eq, beq_eq_false_iff_ne, Bool.not_true, Bool.not_false] at hc2
          have hMS0 : MkS S (allS (rows.take k) ++ (el rows (k : Int)).st.take 0) := by simpa using hMS
          have hMQ0 : MkQ Q (allS (rows.take k) ++ (el rows (k : Int)).st.take 0) [] := by simpa using hMQ
          refine wp_skip ?_
          refine n_then ?_
          refine wp_seq ?_
          refine rg ?_
          refine st (mvS rfl) ?_
          refine st (y_len Try.underlying35 rfl) ?_
          refine st (mvI rfl) ?_
          refine rg_end ?_
          refine n_then ?_
          refine wp_block ?_
          refine lp (γ := Nat × List Bool × List Bool) [2, 7, 8, 10, 31, 32, 33, 34, 35, 36, 37, 38, 39, 40, 41, 42, 43, 44, 45, 46, 47, 48, 49, 50, 51, 52, 53, 54, 55, 56, 57, 58, 59, 60, 61, 62, 63, 64, 65, 66, 67] (fun ⟨j, S, Q⟩ => [(31, .int .i64 (j : Int))]) (fun ⟨j, S, Q⟩ w_ => Out bS (bQ + 1) w11 w_ ∧ (j : Int) ≤ (el rows (k : Int)).st.length ∧ (∀ q : Nat, q < j → SgOk (el (el rows (k : Int)).st (q : Int))) ∧ (∀ q : Nat, 0 < q → q < j → (el (el rows (k : Int)).st ((q : Int) - 1)).sec ≠ (el (el rows (k : Int)).st (q : Int)).sec) ∧ MkS S (allS (rows.take k) ++ (el rows (k : Int)).st.take j) ∧ MkQ Q (allS (rows.take k) ++ (el rows (k : Int)).st.take j) [] ∧ Ow 70 encB 1 w.heap.size (bS + 1) w_ (some ⟨bS, 0, none⟩) 144 S ∧ Ow 70 encB 1 w.heap.size (bQ + 1) w_ (some ⟨bQ, 0, none⟩) 144 Q) (fun ⟨j, S, Q⟩ => (el rows (k : Int)).st.length - j) (0, S, Q) ⟨rfl, trivial⟩ ⟨Out.refl _ _ _, by omega, (fun q hq => by omega), (fun q q0 hq => by omega), hMS0, hMQ0, hS, hQ⟩ ?_
          rintro ⟨j, S, Q⟩ hav_ w15 ⟨ho16, hj_, hsg, hnx, hMS2, hMQ2, hS, hQ⟩
          have hlp1 := ho16
          have hz17 := ho16.size
          replace hP := hP.out ho16 (by first | omega | (simp only [blk_some, hi1_some] at *; omega))
          replace hE := hE.step ho16 (by first | omega | (simp only [blk_some, hi1_some] at *; omega))
          replace hlp0 := hlp0.step ho16 (by first | omega | (simp only [blk_some, hi1_some] at *; omega))
          replace hR := hR.out ho16 (by first | omega | (simp only [blk_some, hi1_some] at *; omega))
          refine wp_seq ?_
          refine rg ?_
          refine st (y_lss rfl rfl) ?_
          refine rg_end ?_
          refine n_then ?_
          refine wp_seq ?_
          refine cnd rfl (fun hc3 => ?_) (fun hc3 => ?_)
          ·
            try simp only [decide_eq_true_eq, decide_eq_false_iff_not, Bool.not_eq_true', Bool.not_eq_false', Bool.and_eq_true, Bool.or_eq_true, Bool.or_eq_false_iff, Bool.cond_true_right, Bool.cond_false_right, Bool.cond_true_left, Bool.cond_false_left, ne_eq, Decidable.not_not, bne_iff_ne, beq_iff_eq, beq_eq_false_iff_ne, Bool.not_true, Bool.not_false] at hc3
            have hmj := el_mem (l := (el rows (k : Int)).st) (i := (j : Int)) (by omega) hc3
            have hPt := hP.pts _ hmr _ hmj
            have hpl := (hln _ hmr).2 _ hmj
            refine wp_skip ?_
            refine n_then ?_
            refine wp_seq ?_
            refine wp_block ?_
            refine wp_seq ?_
            refine rg ?_
            refine st (mvI rfl) ?_
            refine st (y_ix hR sl35 rfl (rfl) rfl (by omega) (by omega)) ?_
            refine st (y_lw hR agg44 rfl (by omega) (by omega)) ?_
            refine sd (d_allocA zer44 ?_)
            intro b8 w18 hbb8 hs20 ho19 hb8
            have hz21 := ho19.size
            replace hP := hP.ext ho19
            replace hE := hE.step ho19 (.inl (Nat.le_refl _))
            replace hlp0 := hlp0.step ho19 (.inl (Nat.le_refl _))
            replace hR := hR.ext ho19
            replace hS := hS.ext ho19
            replace hQ := hQ.ext ho19
            replace hlp1 := hlp1.step ho19 (.inl (Nat.le_refl _))
            replace hPt := hPt.ext ho19
            refine st (asI rfl) ?_
            refine sd0 (d_stN hb8 rfl rfl sz44 rfl rfl ?_)
            intro w22 hs24 ho23 hb8'
            clear hb8; have hb8 := hb8'; clear hb8'
            have hz25 := ho23.size
            replace hP := hP.out ho23 (by first | omega | (simp only [blk_some, hi1_some] at *; omega))
            replace hE := hE.step ho23 (by first | omega | (simp only [blk_some, hi1_some] at *; omega))
            replace hlp0 := hlp0.step ho23 (by first | omega | (simp only [blk_some, hi1_some] at *; omega))
            replace hR := hR.out ho23 (by first | omega | (simp only [blk_some, hi1_some] at *; omega))
            have hrnhS := hS.rng
            replace hS := hS.out ho23 (by first | omega | (simp only [blk_some, hi1_some] at *; omega))
            have hrnhQ := hQ.rng
            replace hQ := hQ.out ho23 (by first | omega | (simp only [blk_some, hi1_some] at *; omega))
            replace hlp1 := hlp1.step ho23 (by first | omega | (simp only [blk_some, hi1_some] at *; omega))
            replace hPt := hPt.out ho23 (by first | omega | (simp only [blk_some, hi1_some] at *; omega))
            refine rg_end ?_
            refine n_then ?_
            refine wp_seq ?_
            refine wp_seq ?_
            refine rgD 15 (fun w_ => Ext w22 w_) (fun i => Nat.beq i 1) mixed (by kernel_rfl) ?_
            intro w26 ho27 hs28
            refine ⟨ho27, ?_⟩
            have hx29 := ho27
            refine tn rfl (fun _ hG => y_lbN (hb8.ext hG) agg44 rfl) ?_
            refine tc rfl cl53 (prec_isStage_ok (el (el rows (k : Int)).st (j : Int)) _ _ _ (hPt.ext hx29) hpl) rfl ?_
            rintro v34 w30 ⟨b, rfl, hb, ho31⟩
            have hx35 := hx29.step ho31 (.inl (Nat.le_refl _))
            have hz36 := ho31.size
            refine ⟨hx35, ?_⟩
            refine tn rfl (fun _ hG => y_not rfl) ?_
            refine tn rfl (fun _ hG => mvB rfl) ?_
            refine gspT 39 rfl (fun hg37 => ?_) (fun hg37 => ?_)
            ·
              have hg37n := hg37; try simp only [decide_eq_true_eq, decide_eq_false_iff_not, Bool.not_eq_true', Bool.not_eq_false', Bool.and_eq_true, Bool.or_eq_true, Bool.or_eq_false_iff, Bool.cond_true_right, Bool.cond_false_right, Bool.cond_true_left, Bool.cond_false_left, ne_eq, Decidable.not_not, bne_iff_ne, beq_iff_eq, beq_eq_false_iff_ne, Bool.not_true, Bool.not_false] at hg37n
              refine tns rfl rfl hg37 ?_
              refine tns rfl rfl hg37 ?_
              refine tns rfl rfl hg37 ?_
              refine tnu rfl rfl ?_
              refine tnu rfl rfl ?_
              refine tnu rfl rfl ?_
              refine tnu rfl rfl ?_
              refine tnu rfl rfl ?_
              refine tnu rfl rfl ?_
              refine tnu rfl rfl ?_
              refine tnu rfl rfl ?_
              refine t_end ?_
              have hz38 := hx35.size
              replace hP := hP.ext hx35
              replace hE := hE.step hx35 (.inl (Nat.le_refl _))
              replace hlp0 := hlp0.step hx35 (.inl (Nat.le_refl _))
              replace hR := hR.ext hx35
              replace hS := hS.ext hx35
              replace hQ := hQ.ext hx35
              replace hlp1 := hlp1.step hx35 (.inl (Nat.le_refl _))
              replace hPt := hPt.ext hx35
              replace hb8 := hb8.ext hx35
              refine stu rfl rfl ?_
              refine sts rfl rfl hg37 ?_
              refine st (y_pickT rfl hg37 (v := .bool _) rfl) ?_
              refine rg_end ?_
              refine n_then ?_
              refine cnd rfl (fun hc4 => ?_) (fun hc4 => absurd hc4 (by decide))
              have hno : ¬ VaP rows := fun h => by
                have h1 := (va_row h hc1).sg j (by omega)
                have h2 := (va_row h hc1).nx j
                first
                | (have h3 := hb.2 h1; rw [show b = false by assumption] at h3; cases h3)
                | exact absurd (by assumption) (h2 (by omega) (by omega))
              refine wp_seq ?_
              refine rg ?_
              refine st (asB rfl) ?_
              refine rg_end ?_
              refine n_then ?_
              refine wp_ret ?_
              refine r_then (r_blk (r_then (r_then (r_blk (r_blk (r_then (r_then (r_blk (r_then (ret1 (v := (.bool _)) Try.results45 rfl ?_))))))))))
              exact ⟨false, rfl, ⟨fun h => (by cases h), fun h => absurd h hno⟩, hE⟩
            ·
              have hg37n := hg37; try simp only [decide_eq_true_eq, decide_eq_false_iff_not, Bool.not_eq_true', Bool.not_eq_false', Bool.and_eq_true, Bool.or_eq_true, Bool.or_eq_false_iff, Bool.cond_true_right, Bool.cond_false_right, Bool.cond_true_left, Bool.cond_false_left, ne_eq, Decidable.not_not, bne_iff_ne, beq_iff_eq, beq_eq_false_iff_ne, Bool.not_true, Bool.not_false] at hg37n
              refine tng rfl rfl rfl hg37 (fun _ hG => mvI rfl) ?_
              refine tng rfl rfl rfl hg37 (fun _ hG => y_gtr rfl rfl) ?_
              refine tng rfl rfl rfl hg37 (fun _ hG => mvB rfl) ?_
              refine gspT 42 rfl (fun hg39 => ?_) (fun hg39 => ?_)
              ·
                have hg39n := hg39; try simp only [decide_eq_true_eq, decide_eq_false_iff_not, Bool.not_eq_true', Bool.not_eq_false', Bool.and_eq_true, Bool.or_eq_true, Bool.or_eq_false_iff, Bool.cond_true_right, Bool.cond_false_right, Bool.cond_true_left, Bool.cond_false_left, ne_eq, Decidable.not_not, bne_iff_ne, beq_iff_eq, beq_eq_false_iff_ne, Bool.not_true, Bool.not_false] at hg39n
                refine tng rfl rfl rfl hg39 (fun _ hG => mvS rfl) ?_
                refine tng rfl rfl rfl hg39 (fun _ hG => mvI rfl) ?_
                refine tng rfl rfl rfl hg39 (fun _ hG => y_sub rfl rfl (by omega)) ?_
                refine tng rfl rfl rfl hg39 (fun _ hG => y_ix (hR.ext hG) sl35 rfl (rfl) rfl (by omega) (by omega)) ?_
                refine tng rfl rfl rfl hg39 (fun _ hG => y_fld fld44_0 rfl) ?_
                refine tng rfl rfl rfl hg39 (fun _ hG => y_lf (hR.ext hG) na3 rfl (by omega) (by omega) rfl) ?_
                refine tng rfl rfl rfl hg39 (fun _ hG => y_fld fld44_0 rfl) ?_
                refine tng rfl rfl rfl hg39 (fun _ hG => y_lb (hb8.ext hG) na3 rfl rfl) ?_
                refine t_end ?_
                have hz40 := hx35.size
                replace hP := hP.ext hx35
                replace hE := hE.step hx35 (.inl (Nat.le_refl _))
                replace hlp0 := hlp0.step hx35 (.inl (Nat.le_refl _))
                replace hR := hR.ext hx35
                replace hS := hS.ext hx35
                replace hQ := hQ.ext hx35
                replace hlp1 := hlp1.step hx35 (.inl (Nat.le_refl _))
                replace hPt := hPt.ext hx35
                replace hb8 := hb8.ext hx35
                refine stg rfl rfl hg39 (y_eql rfl rfl) ?_
                refine stg rfl rfl hg37 (y_pickT rfl hg39 (v := .bool _) rfl) ?_
                refine st (y_pickF rfl hg37 (v := .bool _) rfl) ?_
                refine rg_end ?_
                refine n_then ?_
                refine cnd rfl (fun hc4 => ?_) (fun hc4 => ?_)
                ·
                  try simp only [decide_eq_true_eq, decide_eq_false_iff_not, Bool.not_eq_true', Bool.not_eq_false', Bool.and_eq_true, Bool.or_eq_true, Bool.or_eq_false_iff, Bool.cond_true_right, Bool.cond_false_right, Bool.cond_true_left, Bool.cond_false_left, ne_eq, Decidable.not_not, bne_iff_ne, beq_iff_eq, beq_eq_false_iff_ne, Bool.not_true, Bool.not_false] at hc4
                  have hno : ¬ VaP rows := fun h => by
                    have h1 := (va_row h hc1).sg j (by omega)
                    have h2 := (va_row h hc1).nx j
                    first
                    | (have h3 := hb.2 h1; rw [show b = false by assumption] at h3; cases h3)
                    | exact absurd (by assumption) (h2 (by omega) (by omega))
                  refine wp_seq ?_
                  refine rg ?_
                  refine st (asB rfl) ?_
                  refine rg_end ?_
                  refine n_then ?_
                  refine wp_ret ?_
                  refine r_then (r_blk (r_then (r_then (r_blk (r_blk (r_then (r_then (r_blk (r_then (ret1 (v := (.bool _)) Try.results45 rfl ?_))))))))))
                  exact ⟨false, rfl, ⟨fun h => (by cases h), fun h => absurd h hno⟩, hE⟩
                ·
                  try simp only [decide_eq_true_eq, decide_eq_false_iff_not, Bool.not_eq_true', Bool.not_eq_false', Bool.and_eq_true, Bool.or_eq_true, Bool.or_eq_false_iff, Bool.cond_true_right, Bool.cond_false_right, Bool.cond_true_left, Bool.cond_false_left, ne_eq, Decidable.not_not, bne_iff_ne, beq_iff_eq, beq_eq_false_iff_ne, Bool.not_true, Bool.not_false] at hc4
                  have hbt : b = true := by assumption
                  have hso := hb.1 hbt
                  have s0 := hso.s0
                  have s1 := hso.s1
                  have hsl := hMS2.1
                  have hql := hMQ2.1
                  have hnx1 : ∀ q : Nat, 0 < q → q < j + 1 → (el (el rows (k : Int)).st ((q : Int) - 1)).sec ≠ (el (el rows (k : Int)).st (q : Int)).sec := fun q q0 hq => by
                    by_cases e : q = j
                    · subst e; first | assumption | omega
                    · exact hnx q q0 (by omega)
                  have hsg1 : ∀ q : Nat, q < j + 1 → SgOk (el (el rows (k : Int)).st (q : Int)) := fun q hq => by
                    by_cases e : q = j
                    · subst e; exact hso
                    · exact hsg q (by omega)
                  refine wp_skip ?_
                  refine n_then ?_
                  refine wp_seq ?_
                  refine rg ?_
                  refine st (y_fld fld44_0 rfl) ?_
                  refine st (y_lb hb8 na3 rfl rfl) ?_
                  refine st (y_ixR Try.underlying70 sz4 rfl rfl rfl (by omega) (by omega)) ?_
                  refine sd0 (d_se (j := 0) (e' := true) hS sz4 rfl rfl rfl (by omega) (by omega) (Nat.le_of_ble_eq_true rfl) rfl ?_)
                  intro w41 hs43 ho42 hS'
                  have hrhS := hS.rng
                  clear hS; have hS := hS'; clear hS'
                  have hz44 := ho42.size
                  replace hP := hP.out ho42 (by first | omega | (simp only [blk_some, hi1_some] at *; omega))
                  replace hE := hE.step ho42 (by first | omega | (simp only [blk_some, hi1_some] at *; omega))
                  replace hlp0 := hlp0.step ho42 (by first | omega | (simp only [blk_some, hi1_some] at *; omega))
                  replace hR := hR.out ho42 (by first | omega | (simp only [blk_some, hi1_some] at *; omega))
                  replace hQ := hQ.out ho42 (by first | omega | (simp only [blk_some, hi1_some] at *; omega))
                  replace hlp1 := hlp1.step ho42 (by first | omega | (simp only [blk_some, hi1_some] at *; omega))
                  replace hPt := hPt.out ho42 (by first | omega | (simp only [blk_some, hi1_some] at *; omega))
                  replace hb8 := hb8.out ho42 (by first | omega | (simp only [blk_some, hi1_some] at *; omega))
                  have hMS3 := hMS2.put (s := (el (el rows (k : Int)).st (j : Int))) s0 s1
                  rw [List.append_assoc, ← tkS hc3] at hMS3
                  have hsl3 := hMS3.1
                  refine rg_end ?_
                  refine n_then ?_
                  refine wp_seq ?_
                  refine rg ?_
                  refine st (y_fld fld44_1 rfl) ?_
                  refine st (y_lb hb8 na22 rfl rfl) ?_
                  refine st (y_len Try.underlying22 rfl) ?_
                  refine st (mvI rfl) ?_
                  refine rg_end ?_
                  refine n_then ?_
                  refine wp_block ?_
                  refine lp (γ := Nat × List Bool) [10, 60, 61, 62, 63, 64, 65, 66] (fun ⟨q, Q2⟩ => [(60, .int .i64 (q : Int))]) (fun ⟨q, Q2⟩ w_ => Out bS (bQ + 1) w41 w_ ∧ (q : Int) ≤ (el (el rows (k : Int)).st (j : Int)).pts.length ∧ MkQ Q2 (allS (rows.take k) ++ (el rows (k : Int)).st.take j) ((el (el rows (k : Int)).st (j : Int)).pts.take q) ∧ Ow 70 encB 1 w.heap.size (bS + 1) w_ (some ⟨bS, 0, none⟩) 144 (S.set (el (el rows (k : Int)).st (j : Int)).sec.toNat true) ∧ Ow 70 encB 1 w.heap.size (bQ + 1) w_ (some ⟨bQ, 0, none⟩) 144 Q2) (fun ⟨q, Q2⟩ => (el (el rows (k : Int)).st (j : Int)).pts.length - q) (0, Q) ⟨rfl, trivial⟩ ⟨Out.refl _ _ _, by omega, by simpa using hMQ2, hS, hQ⟩ ?_
                  rintro ⟨q, Q2⟩ hav_ w45 ⟨ho46, hq_, hMQ3, hS, hQ⟩
                  have hlp2 := ho46
                  have hz47 := ho46.size
                  replace hP := hP.out ho46 (by first | omega | (simp only [blk_some, hi1_some] at *; omega))
                  replace hE := hE.step ho46 (by first | omega | (simp only [blk_some, hi1_some] at *; omega))
                  replace hlp0 := hlp0.step ho46 (by first | omega | (simp only [blk_some, hi1_some] at *; omega))
                  replace hR := hR.out ho46 (by first | omega | (simp only [blk_some, hi1_some] at *; omega))
                  replace hlp1 := hlp1.step ho46 (by first | omega | (simp only [blk_some, hi1_some] at *; omega))
                  replace hPt := hPt.out ho46 (by first | omega | (simp only [blk_some, hi1_some] at *; omega))
                  replace hb8 := hb8.out ho46 (by first | omega | (simp only [blk_some, hi1_some] at *; omega))
                  refine wp_seq ?_
                  refine rg ?_
                  refine st (y_lss rfl rfl) ?_
                  refine rg_end ?_
                  refine n_then ?_
                  refine wp_seq ?_
                  refine cnd rfl (fun hc5 => ?_) (fun hc5 => ?_)
                  ·
                    try simp only [decide_eq_true_eq, decide_eq_false_iff_not, Bool.not_eq_true', Bool.not_eq_false', Bool.and_eq_true, Bool.or_eq_true, Bool.or_eq_false_iff, Bool.cond_true_right, Bool.cond_false_right, Bool.cond_true_left, Bool.cond_false_left, ne_eq, Decidable.not_not, bne_iff_ne, beq_iff_eq, beq_eq_false_iff_ne, Bool.not_true, Bool.not_false] at hc5
                    have hpp := hso.pt q (by omega)
                    have hql2 := hMQ3.1
                    refine wp_skip ?_
                    refine n_then ?_
                    refine wp_seq ?_
                    refine wp_block ?_
                    refine wp_seq ?_
                    refine rg ?_
                    refine st (y_ix hPt sl22 rfl (rfl) rfl (by omega) (by omega)) ?_
                    refine st (y_le hPt na3 rfl (by omega) (by omega) rfl) ?_
                    refine st (asI rfl) ?_
                    refine rg_end ?_
                    refine n_then ?_
                    refine rg ?_
                    refine st (mvI rfl) ?_
                    refine st (y_ixR Try.underlying70 sz4 rfl rfl rfl (by omega) (by omega)) ?_
                    refine sd0 (d_se (j := 0) (e' := true) hQ sz4 rfl rfl rfl (by omega) (by omega) (Nat.le_of_ble_eq_true rfl) rfl ?_)
                    intro w48 hs50 ho49 hQ'
                    have hrhQ := hQ.rng
                    clear hQ; have hQ := hQ'; clear hQ'
                    have hz51 := ho49.size
                    replace hP := hP.out ho49 (by first | omega | (simp only [blk_some, hi1_some] at *; omega))
                    replace hE := hE.step ho49 (by first | omega | (simp only [blk_some, hi1_some] at *; omega))
                    replace hlp0 := hlp0.step ho49 (by first | omega | (simp only [blk_some, hi1_some] at *; omega))
                    replace hR := hR.out ho49 (by first | omega | (simp only [blk_some, hi1_some] at *; omega))
                    replace hlp1 := hlp1.step ho49 (by first | omega | (simp only [blk_some, hi1_some] at *; omega))
                    replace hPt := hPt.out ho49 (by first | omega | (simp only [blk_some, hi1_some] at *; omega))
                    replace hb8 := hb8.out ho49 (by first | omega | (simp only [blk_some, hi1_some] at *; omega))
                    have hrnhS := hS.rng
                    replace hS := hS.out ho49 (by first | omega | (simp only [blk_some, hi1_some] at *; omega))
                    replace hlp2 := hlp2.step ho49 (by first | omega | (simp only [blk_some, hi1_some] at *; omega))
                    have hMQ5 := hMQ3.put (p := el (el (el rows (k : Int)).st (j : Int)).pts (q : Int)) hpp.1 hpp.2.1
                    rw [← tkS hc5] at hMQ5
                    refine rg_end ?_
                    refine n_blk ?_
                    refine n_then ?_
                    refine rg ?_
                    refine st (y_add rfl rfl (by omega)) ?_
                    refine st (mvI rfl) ?_
                    refine rg_end ?_
                    exact n_then ⟨(q + 1, _), _, rfl, same_lk rfl (same_h0), ⟨rfl, trivial⟩, ⟨hlp2, by omega, hMQ5, hS, hQ⟩, by first | omega | (dsimp only; omega)⟩
                  ·
                    try simp only [decide_eq_true_eq, decide_eq_false_iff_not, Bool.not_eq_true', Bool.not_eq_false', Bool.and_eq_true, Bool.or_eq_true, Bool.or_eq_false_iff, Bool.cond_true_right, Bool.cond_false_right, Bool.cond_true_left, Bool.cond_false_left, ne_eq, Decidable.not_not, bne_iff_ne, beq_iff_eq, beq_eq_false_iff_ne, Bool.not_true, Bool.not_false] at hc5
                    have hqe : (el (el rows (k : Int)).st (j : Int)).pts.take q = (el (el rows (k : Int)).st (j : Int)).pts := tkE hc5
                    have hMQ4 : MkQ Q2 (allS (rows.take k) ++ (el rows (k : Int)).st.take (j + 1)) [] := by
                      rw [hqe] at hMQ3
                      have := hMQ3.done
                      rwa [List.append_assoc, ← tkS hc3] at this
                    refine wp_exit ?_
                    refine e_then (e_then (e_blk (?_)))
                    refine n_blk ?_
                    refine n_then ?_
                    refine rg ?_
                    refine st (y_add rfl rfl (by omega)) ?_
                    refine st (mvI rfl) ?_
                    refine rg_end ?_
                    exact n_then ⟨(j + 1, _, Q2), _, rfl, same_lk rfl (same_hav rfl (same_lk rfl (same_h0))), ⟨rfl, trivial⟩, ⟨hlp1, by omega, hsg1, hnx1, hMS3, hMQ4, hS, hQ⟩, by first | omega | (dsimp only; omega)⟩
              ·
                have hg39n := hg39; try simp only [decide_eq_true_eq, decide_eq_false_iff_not, Bool.not_eq_true', Bool.not_eq_false', Bool.and_eq_true, Bool.or_eq_true, Bool.or_eq_false_iff, Bool.cond_true_right, Bool.cond_false_right, Bool.cond_true_left, Bool.cond_false_left, ne_eq, Decidable.not_not, bne_iff_ne, beq_iff_eq, beq_eq_false_iff_ne, Bool.not_true, Bool.not_false] at hg39n
                refine tns rfl rfl hg39 ?_
                refine tns rfl rfl hg39 ?_
                refine tns rfl rfl hg39 ?_
                refine tns rfl rfl hg39 ?_
                refine tns rfl rfl hg39 ?_
                refine tns rfl rfl hg39 ?_
                refine tns rfl rfl hg39 ?_
                refine tns rfl rfl hg39 ?_
                refine t_end ?_
                have hz52 := hx35.size
                replace hP := hP.ext hx35
                replace hE := hE.step hx35 (.inl (Nat.le_refl _))
                replace hlp0 := hlp0.step hx35 (.inl (Nat.le_refl _))
                replace hR := hR.ext hx35
                replace hS := hS.ext hx35
                replace hQ := hQ.ext hx35
                replace hlp1 := hlp1.step hx35 (.inl (Nat.le_refl _))
                replace hPt := hPt.ext hx35
                replace hb8 := hb8.ext hx35
                refine sts rfl rfl hg39 ?_
                refine stg rfl rfl hg37 (y_pickF rfl hg39 (v := .bool _) rfl) ?_
                refine st (y_pickF rfl hg37 (v := .bool _) rfl) ?_
                refine rg_end ?_
                refine n_then ?_
                refine cnd rfl (fun hc4 => absurd hc4 (by decide)) (fun hc4 => ?_)
                have hbt : b = true := by assumption
                have hso := hb.1 hbt
                have s0 := hso.s0
                have s1 := hso.s1
                have hsl := hMS2.1
                have hql := hMQ2.1
                have hnx1 : ∀ q : Nat, 0 < q → q < j + 1 → (el (el rows (k : Int)).st ((q : Int) - 1)).sec ≠ (el (el rows (k : Int)).st (q : Int)).sec := fun q q0 hq => by
                  by_cases e : q = j
                  · subst e; first | assumption | omega
                  · exact hnx q q0 (by omega)
                have hsg1 : ∀ q : Nat, q < j + 1 → SgOk (el (el rows (k : Int)).st (q : Int)) := fun q hq => by
                  by_cases e : q = j
                  · subst e; exact hso
                  · exact hsg q (by omega)
                refine wp_skip ?_
                refine n_then ?_
                refine wp_seq ?_
                refine rg ?_
                refine st (y_fld fld44_0 rfl) ?_
                refine st (y_lb hb8 na3 rfl rfl) ?_
                refine st (y_ixR Try.underlying70 sz4 rfl rfl rfl (by omega) (by omega)) ?_
                refine sd0 (d_se (j := 0) (e' := true) hS sz4 rfl rfl rfl (by omega) (by omega) (Nat.le_of_ble_eq_true rfl) rfl ?_)
                intro w53 hs55 ho54 hS'
                have hrhS := hS.rng
                clear hS; have hS := hS'; clear hS'
                have hz56 := ho54.size
                replace hP := hP.out ho54 (by first | omega | (simp only [blk_some, hi1_some] at *; omega))
                replace hE := hE.step ho54 (by first | omega | (simp only [blk_some, hi1_some] at *; omega))
                replace hlp0 := hlp0.step ho54 (by first | omega | (simp only [blk_some, hi1_some] at *; omega))
                replace hR := hR.out ho54 (by first | omega | (simp only [blk_some, hi1_some] at *; omega))
                replace hQ := hQ.out ho54 (by first | omega | (simp only [blk_some, hi1_some] at *; omega))
                replace hlp1 := hlp1.step ho54 (by first | omega | (simp only [blk_some, hi1_some] at *; omega))
                replace hPt := hPt.out ho54 (by first | omega | (simp only [blk_some, hi1_some] at *; omega))
                replace hb8 := hb8.out ho54 (by first | omega | (simp only [blk_some, hi1_some] at *; omega))
                have hMS3 := hMS2.put (s := (el (el rows (k : Int)).st (j : Int))) s0 s1
                rw [List.append_assoc, ← tkS hc3] at hMS3
                have hsl3 := hMS3.1
                refine rg_end ?_
                refine n_then ?_
                refine wp_seq ?_
                refine rg ?_
                refine st (y_fld fld44_1 rfl) ?_
                refine st (y_lb hb8 na22 rfl rfl) ?_
                refine st (y_len Try.underlying22 rfl) ?_
                refine st (mvI rfl) ?_
                refine rg_end ?_
                refine n_then ?_
                refine wp_block ?_
                refine lp (γ := Nat × List Bool) [10, 60, 61, 62, 63, 64, 65, 66] (fun ⟨q, Q2⟩ => [(60, .int .i64 (q : Int))]) (fun ⟨q, Q2⟩ w_ => Out bS (bQ + 1) w53 w_ ∧ (q : Int) ≤ (el (el rows (k : Int)).st (j : Int)).pts.length ∧ MkQ Q2 (allS (rows.take k) ++ (el rows (k : Int)).st.take j) ((el (el rows (k : Int)).st (j : Int)).pts.take q) ∧ Ow 70 encB 1 w.heap.size (bS + 1) w_ (some ⟨bS, 0, none⟩) 144 (S.set (el (el rows (k : Int)).st (j : Int)).sec.toNat true) ∧ Ow 70 encB 1 w.heap.size (bQ + 1) w_ (some ⟨bQ, 0, none⟩) 144 Q2) (fun ⟨q, Q2⟩ => (el (el rows (k : Int)).st (j : Int)).pts.length - q) (0, Q) ⟨rfl, trivial⟩ ⟨Out.refl _ _ _, by omega, by simpa using hMQ2, hS, hQ⟩ ?_
                rintro ⟨q, Q2⟩ hav_ w57 ⟨ho58, hq_, hMQ3, hS, hQ⟩
                have hlp2 := ho58
                have hz59 := ho58.size
                replace hP := hP.out ho58 (by first | omega | (simp only [blk_some, hi1_some] at *; omega))
                replace hE := hE.step ho58 (by first | omega | (simp only [blk_some, hi1_some] at *; omega))
                replace hlp0 := hlp0.step ho58 (by first | omega | (simp only [blk_some, hi1_some] at *; omega))
                replace hR := hR.out ho58 (by first | omega | (simp only [blk_some, hi1_some] at *; omega))
                replace hlp1 := hlp1.step ho58 (by first | omega | (simp only [blk_some, hi1_some] at *; omega))
                replace hPt := hPt.out ho58 (by first | omega | (simp only [blk_some, hi1_some] at *; omega))
                replace hb8 := hb8.out ho58 (by first | omega | (simp only [blk_some, hi1_some] at *; omega))
                refine wp_seq ?_
                refine rg ?_
                refine st (y_lss rfl rfl) ?_
                refine rg_end ?_
                refine n_then ?_
                refine wp_seq ?_
                refine cnd rfl (fun hc5 => ?_) (fun hc5 => ?_)
                ·
                  try simp only [decide_eq_true_eq, decide_eq_false_iff_not, Bool.not_eq_true', Bool.not_eq_false', Bool.and_eq_true, Bool.or_eq_true, Bool.or_eq_false_iff, Bool.cond_true_right, Bool.cond_false_right, Bool.cond_true_left, Bool.cond_false_left, ne_eq, Decidable.not_not, bne_iff_ne, beq_iff_eq, beq_eq_false_iff_ne, Bool.not_true, Bool.not_false] at hc5
                  have hpp := hso.pt q (by omega)
                  have hql2 := hMQ3.1
                  refine wp_skip ?_
                  refine n_then ?_
                  refine wp_seq ?_
                  refine wp_block ?_
                  refine wp_seq ?_
                  refine rg ?_
                  refine st (y_ix hPt sl22 rfl (rfl) rfl (by omega) (by omega)) ?_
                  refine st (y_le hPt na3 rfl (by omega) (by omega) rfl) ?_
                  refine st (asI rfl) ?_
                  refine rg_end ?_
                  refine n_then ?_
                  refine rg ?_
                  refine st (mvI rfl) ?_
                  refine st (y_ixR Try.underlying70 sz4 rfl rfl rfl (by omega) (by omega)) ?_
                  refine sd0 (d_se (j := 0) (e' := true) hQ sz4 rfl rfl rfl (by omega) (by omega) (Nat.le_of_ble_eq_true rfl) rfl ?_)
                  intro w60 hs62 ho61 hQ'
                  have hrhQ := hQ.rng
                  clear hQ; have hQ := hQ'; clear hQ'
                  have hz63 := ho61.size
                  replace hP := hP.out ho61 (by first | omega | (simp only [blk_some, hi1_some] at *; omega))
                  replace hE := hE.step ho61 (by first | omega | (simp only [blk_some, hi1_some] at *; omega))
                  replace hlp0 := hlp0.step ho61 (by first | omega | (simp only [blk_some, hi1_some] at *; omega))
                  replace hR := hR.out ho61 (by first | omega | (simp only [blk_some, hi1_some] at *; omega))
                  replace hlp1 := hlp1.step ho61 (by first | omega | (simp only [blk_some, hi1_some] at *; omega))
                  replace hPt := hPt.out ho61 (by first | omega | (simp only [blk_some, hi1_some] at *; omega))
                  replace hb8 := hb8.out ho61 (by first | omega | (simp only [blk_some, hi1_some] at *; omega))
                  have hrnhS := hS.rng
                  replace hS := hS.out ho61 (by first | omega | (simp only [blk_some, hi1_some] at *; omega))
                  replace hlp2 := hlp2.step ho61 (by first | omega | (simp only [blk_some, hi1_some] at *; omega))
                  have hMQ5 := hMQ3.put (p := el (el (el rows (k : Int)).st (j : Int)).pts (q : Int)) hpp.1 hpp.2.1
                  rw [← tkS hc5] at hMQ5
                  refine rg_end ?_
                  refine n_blk ?_
                  refine n_then ?_
                  refine rg ?_
                  refine st (y_add rfl rfl (by omega)) ?_
                  refine st (mvI rfl) ?_
                  refine rg_end ?_
                  exact n_then ⟨(q + 1, _), _, rfl, same_lk rfl (same_h0), ⟨rfl, trivial⟩, ⟨hlp2, by omega, hMQ5, hS, hQ⟩, by first | omega | (dsimp only; omega)⟩
                ·
                  try simp only [decide_eq_true_eq, decide_eq_false_iff_not, Bool.not_eq_true', Bool.not_eq_false', Bool.and_eq_true, Bool.or_eq_true, Bool.or_eq_false_iff, Bool.cond_true_right, Bool.cond_false_right, Bool.cond_true_left, Bool.cond_false_left, ne_eq, Decidable.not_not, bne_iff_ne, beq_iff_eq, beq_eq_false_iff_ne, Bool.not_true, Bool.not_false] at hc5
                  have hqe : (el (el rows (k : Int)).st (j : Int)).pts.take q = (el (el rows (k : Int)).st (j : Int)).pts := tkE hc5
                  have hMQ4 : MkQ Q2 (allS (rows.take k) ++ (el rows (k : Int)).st.take (j + 1)) [] := by
                    rw [hqe] at hMQ3
                    have := hMQ3.done
                    rwa [List.append_assoc, ← tkS hc3] at this
                  refine wp_exit ?_
                  refine e_then (e_then (e_blk (?_)))
                  refine n_blk ?_
                  refine n_then ?_
                  refine rg ?_
                  refine st (y_add rfl rfl (by omega)) ?_
                  refine st (mvI rfl) ?_
                  refine rg_end ?_
                  exact n_then ⟨(j + 1, _, Q2), _, rfl, same_lk rfl (same_hav rfl (same_lk rfl (same_h0))), ⟨rfl, trivial⟩, ⟨hlp1, by omega, hsg1, hnx1, hMS3, hMQ4, hS, hQ⟩, by first | omega | (dsimp only; omega)⟩
          ·
            try simp only [decide_eq_true_eq, decide_eq_false_iff_not, Bool.not_eq_true', Bool.not_eq_false', Bool.and_eq_true, Bool.or_eq_true, Bool.or_eq_false_iff, Bool.cond_true_right, Bool.cond_false_right, Bool.cond_true_left, Bool.cond_false_left, ne_eq, Decidable.not_not, bne_iff_ne, beq_iff_eq, beq_eq_false_iff_ne, Bool.not_true, Bool.not_false] at hc3
            have hje : (el rows (k : Int)).st.take j = (el rows (k : Int)).st := tkE hc3
            have hjl : j = (el rows (k : Int)).st.length := by omega
            have hrow1 : ∀ i : Nat, i < k + 1 → RowOk (el rows (i : Int)) := fun i hi => by
              by_cases e : i = k
              · subst e; exact ⟨by omega, by omega, fun q hq => hsg q (by omega), fun q q0 hq => hnx q q0 (by omega)⟩
              · exact hrow i (by omega)
            have hMS1 : MkS S (allS (rows.take (k + 1))) := by rw [allS_take hc1, ← hje]; exact hMS2
            have hMQ1 : MkQ Q (allS (rows.take (k + 1))) [] := by rw [allS_take hc1, ← hje]; exact hMQ2
            refine wp_exit ?_
            refine e_then (e_then (e_blk (?_)))
            refine n_blk ?_
            refine n_then ?_
            refine rg ?_
            refine st (y_add rfl rfl (by omega)) ?_
            refine st (mvI rfl) ?_
            refine rg_end ?_
            exact n_then ⟨(k + 1, S, Q), _, rfl, same_lk rfl (same_hav rfl (same_lk rfl (same_h0))), ⟨rfl, trivial⟩, ⟨hlp0, by omega, hrow1, hMS1, hMQ1, hS, hQ⟩, by first | omega | (dsimp only; omega)⟩
    ·
      try simp only [decide_eq_true_eq, decide_eq_false_iff_not, Bool.not_eq_true', Bool.not_eq_false', Bool.and_eq_true, Bool.or_eq_true, Bool.or_eq_false_iff, Bool.cond_true_right, Bool.cond_false_right, Bool.cond_true_left, Bool.cond_false_left, ne_eq, Decidable.not_not, bne_iff_ne, beq_iff_eq, beq_eq_false_iff_ne, Bool.not_true, Bool.not_false] at hc1
      have hke : rows.take k = rows := tkE hc1
      rw [hke] at hMS hMQ
      refine wp_exit ?_
      refine e_then (e_then (e_blk (?_)))
      refine n_then ?_
      refine wp_seq ?_
      refine wp_seq ?_
      refine rg ?_
      refine st (mvI rfl) ?_
      refine rg_end ?_
      refine n_then ?_
      refine wp_block ?_
      refine lp (γ := Nat) [2, 11, 69, 70, 71, 72, 73, 74, 75, 76, 77, 78, 79, 80] (fun r => [(69, .int .i64 (r : Int))]) (fun r w_ => Ext w11 w_ ∧ (r : Int) ≤ 144 ∧ ∀ q : Nat, q < r → ¬ (el S (q : Int) = true ∧ el Q (q : Int) = true)) (fun r => 144 - r) 0 ⟨rfl, trivial⟩ ⟨Out.refl _ _ _, by omega, fun q hq => by omega⟩ ?_
      rintro r hav_ w64 ⟨ho65, hr_, hnn⟩
      have hlp3 := ho65
      have hz66 := ho65.size
      replace hP := hP.ext ho65
      replace hE := hE.step ho65 (.inl (Nat.le_refl _))
      replace hS := hS.ext ho65
      replace hQ := hQ.ext ho65
      refine wp_seq ?_
      refine rg ?_
      refine st (y_lss rfl rfl) ?_
      refine rg_end ?_
      refine n_then ?_
      refine wp_seq ?_
      refine cnd rfl (fun hc6 => ?_) (fun hc6 => ?_)
      ·
        try simp only [decide_eq_true_eq, decide_eq_false_iff_not, Bool.not_eq_true', Bool.not_eq_false', Bool.and_eq_true, Bool.or_eq_true, Bool.or_eq_false_iff, Bool.cond_true_right, Bool.cond_false_right, Bool.cond_true_left, Bool.cond_false_left, ne_eq, Decidable.not_not, bne_iff_ne, beq_iff_eq, beq_eq_false_iff_ne, Bool.not_true, Bool.not_false] at hc6
        have hsl := hMS.1
        have hql := hMQ.1
        refine wp_skip ?_
        refine n_then ?_
        refine wp_seq ?_
        refine wp_block ?_
        refine wp_seq ?_
        refine rg ?_
        refine st (mvI rfl) ?_
        refine st (asI rfl) ?_
        refine rg_end ?_
        refine n_then ?_
        refine wp_seq ?_
        refine rg ?_
        refine st (mvI rfl) ?_
        refine st (y_ixR Try.underlying70 sz4 rfl rfl rfl (by omega) (by omega)) ?_
        refine st (y_le hS.sl na4 rfl (by omega) (by omega) rfl) ?_
        refine st (mvB rfl) ?_
        refine gspL 75 rfl (fun hg67 => ?_) (fun hg67 => ?_)
        ·
          have hg67n := hg67; try simp only [decide_eq_true_eq, decide_eq_false_iff_not, Bool.not_eq_true', Bool.not_eq_false', Bool.and_eq_true, Bool.or_eq_true, Bool.or_eq_false_iff, Bool.cond_true_right, Bool.cond_false_right, Bool.cond_true_left, Bool.cond_false_left, ne_eq, Decidable.not_not, bne_iff_ne, beq_iff_eq, beq_eq_false_iff_ne, Bool.not_true, Bool.not_false] at hg67n
          refine stg rfl rfl hg67 (mvI rfl) ?_
          refine stg rfl rfl hg67 (y_ixR Try.underlying70 sz4 rfl rfl rfl (by omega) (by omega)) ?_
          refine stg rfl rfl hg67 (y_le hQ.sl na4 rfl (by omega) (by omega) rfl) ?_
          refine st (y_pickT rfl hg67 (v := .bool _) rfl) ?_
          refine rg_end ?_
          refine n_then ?_
          refine cnd rfl (fun hc7 => ?_) (fun hc7 => ?_)
          ·
            try simp only [decide_eq_true_eq, decide_eq_false_iff_not, Bool.not_eq_true', Bool.not_eq_false', Bool.and_eq_true, Bool.or_eq_true, Bool.or_eq_false_iff, Bool.cond_true_right, Bool.cond_false_right, Bool.cond_true_left, Bool.cond_false_left, ne_eq, Decidable.not_not, bne_iff_ne, beq_iff_eq, beq_eq_false_iff_ne, Bool.not_true, Bool.not_false] at hc7
            have hno : ¬ VaP rows := va_no hMS hMQ (r := r) (by omega) (by assumption) (by assumption)
            refine wp_seq ?_
            refine rg ?_
            refine st (asB rfl) ?_
            refine rg_end ?_
            refine n_then ?_
            refine wp_ret ?_
            refine r_blk (r_then (r_then (r_blk (r_then (ret1 (v := (.bool _)) Try.results45 rfl ?_)))))
            exact ⟨false, rfl, ⟨fun h => (by cases h), fun h => absurd h hno⟩, hE⟩
          ·
            try simp only [decide_eq_true_eq, decide_eq_false_iff_not, Bool.not_eq_true', Bool.not_eq_false', Bool.and_eq_true, Bool.or_eq_true, Bool.or_eq_false_iff, Bool.cond_true_right, Bool.cond_false_right, Bool.cond_true_left, Bool.cond_false_left, ne_eq, Decidable.not_not, bne_iff_ne, beq_iff_eq, beq_eq_false_iff_ne, Bool.not_true, Bool.not_false] at hc7
            have hnn1 : ∀ q : Nat, q < r + 1 → ¬ (el S (q : Int) = true ∧ el Q (q : Int) = true) := fun q hq => by
              by_cases e : q = r
              · subst e
                rintro ⟨h1, h2⟩
                first
                | (rw [show el S (q : Int) = false by assumption] at h1; cases h1)
                | (rw [show el Q (q : Int) = false by assumption] at h2; cases h2)
              · exact hnn q (by omega)
            refine wp_skip ?_
            refine n_blk ?_
            refine n_then ?_
            refine rg ?_
            refine st (y_add rfl rfl (by omega)) ?_
            refine st (mvI rfl) ?_
            refine rg_end ?_
            exact n_then ⟨r + 1, _, rfl, same_lk rfl (same_h0), ⟨rfl, trivial⟩, ⟨hlp3, by omega, hnn1⟩, by first | omega | (dsimp only; omega)⟩
        ·
          have hg67n := hg67; try simp only [decide_eq_true_eq, decide_eq_false_iff_not, Bool.not_eq_true', Bool.not_eq_false', Bool.and_eq_true, Bool.or_eq_true, Bool.or_eq_false_iff, Bool.cond_true_right, Bool.cond_false_right, Bool.cond_true_left, Bool.cond_false_left, ne_eq, Decidable.not_not, bne_iff_ne, beq_iff_eq, beq_eq_false_iff_ne, Bool.not_true, Bool.not_false] at hg67n
          refine sts rfl rfl hg67 ?_
          refine sts rfl rfl hg67 ?_
          refine sts rfl rfl hg67 ?_
          refine st (y_pickF rfl hg67 (v := .bool _) rfl) ?_
          refine rg_end ?_
          refine n_then ?_
          refine cnd rfl (fun hc7 => absurd hc7 (by decide)) (fun hc7 => ?_)
          have hnn1 : ∀ q : Nat, q < r + 1 → ¬ (el S (q : Int) = true ∧ el Q (q : Int) = true) := fun q hq => by
            by_cases e : q = r
            · subst e
              rintro ⟨h1, h2⟩
              first
              | (rw [show el S (q : Int) = false by assumption] at h1; cases h1)
              | (rw [show el Q (q : Int) = false by assumption] at h2; cases h2)
            · exact hnn q (by omega)
          refine wp_skip ?_
          refine n_blk ?_
          refine n_then ?_
          refine rg ?_
          refine st (y_add rfl rfl (by omega)) ?_
          refine st (mvI rfl) ?_
          refine rg_end ?_
          exact n_then ⟨r + 1, _, rfl, same_lk rfl (same_h0), ⟨rfl, trivial⟩, ⟨hlp3, by omega, hnn1⟩, by first | omega | (dsimp only; omega)⟩
      ·
        try simp only [decide_eq_true_eq, decide_eq_false_iff_not, Bool.not_eq_true', Bool.not_eq_false', Bool.and_eq_true, Bool.or_eq_true, Bool.or_eq_false_iff, Bool.cond_true_right, Bool.cond_false_right, Bool.cond_true_left, Bool.cond_false_left, ne_eq, Decidable.not_not, bne_iff_ne, beq_iff_eq, beq_eq_false_iff_ne, Bool.not_true, Bool.not_false] at hc6
        have hva := va_end hlen (fun i hi => hrow i (by omega)) hMS hMQ (fun q hq => hnn q (by omega))
        refine wp_exit ?_
        refine e_then (e_then (e_blk (?_)))
        refine n_then ?_
        refine wp_seq ?_
        refine rg ?_
        refine st (asB rfl) ?_
        refine rg_end ?_
        refine n_then ?_
        refine wp_ret ?_
        refine ret1 (v := (.bool _)) Try.results45 rfl ?_
        exact ⟨true, rfl, ⟨fun _ => hva, fun _ => rfl⟩, hE⟩

set_option maxHeartbeats 2000000 in
set_option maxRecDepth 100000 in
theorem ref35_Valid_ok (rows : List Pw) (ap : Option Addr) (cp l_ h_ : Nat) (w : World) (hP : PIn l_ h_ w ap rows) (hpn : (rows.length : Int) ≤ 9223372036854775807) (hln : ∀ r ∈ rows, (r.st.length : Int) ≤ 9223372036854775807 ∧ ∀ s ∈ r.st, (s.pts.length : Int) ≤ 9223372036854775807) : Cal Try.prog 35 [.slice ap rows.length cp] w (fun v w' => ∃ b, v = .bool b ∧ (b = true ↔ VaP rows) ∧ Ext w w') := by
  replace hP := hP.full
  have hE : Out 0 0 w w := Out.refl _ _ w
  refine enter Try.func35 rfl Try.ntmps35 rfl ?_
  refine wp_seq ?_
  refine rg ?_
  refine st (asB rfl) ?_
  refine rg_end ?_
  refine n_then ?_
  refine wp_seq ?_
  refine wp_seq ?_
  refine rg ?_
  refine st (mvS rfl) ?_
  refine st (y_len Try.underlying23 rfl) ?_
  refine st (y_gtr rfl rfl) ?_
  refine rg_end ?_
  refine n_then ?_
  refine cnd rfl (fun hc0 => ?_) (fun hc0 => ?_)
  ·
    try simp only [decide_eq_true_eq, decide_eq_false_iff_not, Bool.not_eq_true', Bool.not_eq_false', Bool.and_eq_true, Bool.or_eq_true, Bool.or_eq_false_iff, Bool.cond_true_right, Bool.cond_false_right, Bool.cond_true_left, Bool.cond_false_left, ne_eq, Decidable.not_not, bne_iff_ne, beq_iff_eq, beq_eq_false_iff_ne, Bool.not_true, Bool.not_false] at hc0
    have hno : ¬ VaP rows := fun h => by have := h.len; omega
    refine wp_seq ?_
    refine rg ?_
    refine st (asB rfl) ?_
    refine rg_end ?_
    refine n_then ?_
    refine wp_ret ?_
    refine r_then (ret1 (v := (.bool _)) Try.results35 rfl ?_)
    exact ⟨false, rfl, ⟨fun h => (by cases h), fun h => absurd h hno⟩, hE⟩
  ·
    try simp only [decide_eq_true_eq, decide_eq_false_iff_not, Bool.not_eq_true', Bool.not_eq_false', Bool.and_eq_true, Bool.or_eq_true, Bool.or_eq_false_iff, Bool.cond_true_right, Bool.cond_false_right, Bool.cond_true_left, Bool.cond_false_left, ne_eq, Decidable.not_not, bne_iff_ne, beq_iff_eq, beq_eq_false_iff_ne, Bool.not_true, Bool.not_false] at hc0
    have hlen : rows.length ≤ 10 := by omega
    refine wp_skip ?_
    refine n_then ?_
    refine wp_seq ?_
    refine rg ?_
    refine sd (d_allocR (sz := 1) (m := 144) (lo := w.heap.size) (enc := encB) (e0 := false) zerR70 zerC70 (fun _ => rfl) (by unfold maxLen; omega) (by omega) ?_)
    intro bS w1 hbbS hs3 ho2 hS
    have hz5 := ho2.size
    replace hP := hP.ext ho2
    replace hE := hE.step ho2 (.inl (Nat.le_refl _))
    refine sd (d_allocR (sz := 1) (m := 144) (lo := w.heap.size) (enc := encB) (e0 := false) zerR70 zerC70 (fun _ => rfl) (by unfold maxLen; omega) (by omega) ?_)
    intro bQ w6 hbbQ hs8 ho7 hQ
    have hz10 := ho7.size
    replace hP := hP.ext ho7
    replace hE := hE.step ho7 (.inl (Nat.le_refl _))
    replace hS := hS.ext ho7
    refine rg_end ?_
    refine n_then ?_
    refine wp_seq ?_
    refine wp_seq ?_
    refine rg ?_
    refine st (mvS rfl) ?_
    refine st (y_len Try.underlying23 rfl) ?_
    refine st (mvI rfl) ?_
    refine rg_end ?_
    refine n_then ?_
    refine wp_block ?_
    refine lp (γ := Nat × List Bool × List Bool) [2, 6, 7, 8, 10, 17, 18, 19, 20, 21, 22, 23, 24, 25, 26, 27, 28, 29, 30, 31, 32, 33, 34, 35, 36, 37, 38, 39, 40, 41, 42, 43, 44, 45, 46, 47, 48, 49, 50, 51, 52, 53, 54, 55, 56, 57, 58, 59, 60, 61, 62, 63, 64, 65, 66, 67, 68] (fun ⟨k, S, Q⟩ => [(17, .int .i64 (k : Int))]) (fun ⟨k, S, Q⟩ w_ => Out bS (bQ + 1) w6 w_ ∧ (k : Int) ≤ rows.length ∧ (∀ i : Nat, i < k → RowOk (el rows (i : Int))) ∧ MkS S (allS (rows.take k)) ∧ MkQ Q (allS (rows.take k)) [] ∧ Ow 70 encB 1 w.heap.size (bS + 1) w_ (some ⟨bS, 0, none⟩) 144 S ∧ Ow 70 encB 1 w.heap.size (bQ + 1) w_ (some ⟨bQ, 0, none⟩) 144 Q) (fun ⟨k, S, Q⟩ => rows.length - k) (0, List.replicate 144 false, List.replicate 144 false) ⟨rfl, trivial⟩ ⟨Out.refl _ _ _, by omega, (fun i hi => by omega), MkS.zero, MkQ.zero, hS, hQ⟩ ?_
    rintro ⟨k, S, Q⟩ hav_ w11 ⟨ho12, hk_, hrow, hMS, hMQ, hS, hQ⟩
    have hlp0 := ho12
    have hz13 := ho12.size
    replace hP := hP.out ho12 (by first | omega | (simp only [blk_some, hi1_some] at *; omega))
    replace hE := hE.step ho12 (by first | omega | (simp only [blk_some, hi1_some] at *; omega))
    refine wp_seq ?_
    refine rg ?_
    refine st (y_lss rfl rfl) ?_
    refine rg_end ?_
    refine n_then ?_
    refine wp_seq ?_
    refine cnd rfl (fun hc1 => ?_) (fun hc1 => ?_)
    ·
      try simp only [decide_eq_true_eq, decide_eq_false_iff_not, Bool.not_eq_true', Bool.not_eq_false', Bool.and_eq_true, Bool.or_eq_true, Bool.or_eq_false_iff, Bool.cond_true_right, Bool.cond_false_right, Bool.cond_true_left, Bool.cond_false_left, ne_eq, Decidable.not_not, bne_iff_ne, beq_iff_eq, beq_eq_false_iff_ne, Bool.not_true, Bool.not_false] at hc1
      have hmr := el_mem (l := rows) (i := (k : Int)) (by omega) hc1
      have hR := hP.row _ hmr
      have hrl := (hln _ hmr).1
      refine wp_skip ?_
      refine n_then ?_
      refine wp_seq ?_
      refine wp_block ?_
      refine wp_seq ?_
      refine rg ?_
      refine st (y_ix hP.tb sl23 rfl (rfl) rfl (by omega) (by omega)) ?_
      refine st (y_le hP.tb na35 rfl (by omega) (by omega) rfl) ?_
      refine st (asS rfl) ?_
      refine rg_end ?_
      refine n_then ?_
      refine wp_seq ?_
      refine wp_seq ?_
      refine rg ?_
      refine st (mvS rfl) ?_
      refine st (y_len Try.underlying35 rfl) ?_
      refine st (y_lss rfl rfl) ?_
      refine st (mvB rfl) ?_
      refine gspL 24 rfl (fun hg14 => ?_) (fun hg14 => ?_)
      ·
        have hg14n := hg14; try simp only [decide_eq_true_eq, decide_eq_false_iff_not, Bool.not_eq_true', Bool.not_eq_false', Bool.and_eq_true, Bool.or_eq_true, Bool.or_eq_false_iff, Bool.cond_true_right, Bool.cond_false_right, Bool.cond_true_left, Bool.cond_false_left, ne_eq, Decidable.not_not, bne_iff_ne, beq_iff_eq, beq_eq_false_iff_ne, Bool.not_true, Bool.not_false] at hg14n
        refine sts rfl rfl hg14 ?_
        refine sts rfl rfl hg14 ?_
        refine sts rfl rfl hg14 ?_
        refine st (y_pickT rfl hg14 (v := .bool _) rfl) ?_
        refine rg_end ?_
        refine n_then ?_
        refine cnd rfl (fun hc2 => ?_) (fun hc2 => absurd hc2 (by decide))
        have hno : ¬ VaP rows := fun h => by
          have h1 := (va_row h hc1).l1
          have h2 := (va_row h hc1).l2
          omega
        refine wp_seq ?_
        refine rg ?_
        refine st (asB rfl) ?_
        refine rg_end ?_
        refine n_then ?_
        refine wp_ret ?_
        refine r_then (r_blk (r_then (r_then (r_blk (r_then (ret1 (v := (.bool _)) Try.results35 rfl ?_))))))
        exact ⟨false, rfl, ⟨fun h => (by cases h), fun h => absurd h hno⟩, hE⟩
      ·
        have hg14n := hg14; try simp only [decide_eq_true_eq, decide_eq_false_iff_not, Bool.not_eq_true', Bool.not_eq_false', Bool.and_eq_true, Bool.or_eq_true, Bool.or_eq_false_iff, Bool.cond_true_right, Bool.cond_false_right, Bool.cond_true_left, Bool.cond_false_left, ne_eq, Decidable.not_not, bne_iff_ne, beq_iff_eq, beq_eq_false_iff_ne, Bool.not_true, Bool.not_false] at hg14n
        refine stg rfl rfl hg14 (mvS rfl) ?_
        refine stg rfl rfl hg14 (y_len Try.underlying35 rfl) ?_
        refine stg rfl rfl hg14 (y_gtr rfl rfl) ?_
        refine st (y_pickF rfl hg14 (v := .bool _) rfl) ?_
        refine rg_end ?_
        refine n_then ?_
        refine cnd rfl (fun hc2 => ?_) (fun hc2 => ?_)
        ·
          try simp only [decide_eq_true_eq, decide_eq_false_iff_not, Bool.not_eq_true', Bool.not_eq_false', Bool.and_eq_true, Bool.or_eq_true, Bool.or_eq_false_iff, Bool.cond_true_right, Bool.cond_false_right, Bool.cond_true_left, Bool.cond_false_left, ne_eq, Decidable.not_not, bne_iff_ne, beq_iff_eq, beq_eq_false_iff_ne, Bool.not_true, Bool.not_false] at hc2
          have hno : ¬ VaP rows := fun h => by
            have h1 := (va_row h hc1).l1
            have h2 := (va_row h hc1).l2
            omega
          refine wp_seq ?_
          refine rg ?_
          refine st (asB rfl) ?_
          refine rg_end ?_
          refine n_then ?_
          refine wp_ret ?_
          refine r_then (r_blk (r_then (r_then (r_blk (r_then (ret1 (v := (.bool _)) Try.results35 rfl ?_))))))
          exact ⟨false, rfl, ⟨fun h => (by cases h), fun h => absurd h hno⟩, hE⟩
        ·
          try simp only [decide_eq_true_eq, decide_eq_false_iff_not, Bool.not_eq_true', Bool.not_eq_false', Bool.and_eq_true, Bool.or_eq_true, Bool.or_eq_false_iff, Bool.cond_true_right, Bool.cond_false_right, Bool.cond_true_left, Bool.cond_false_left, ne_eq, Decidable.not_not, bne_iff_ne, beq_iff_eq, beq_eq_false_iff_ne, Bool.not_true, Bool.not_false] at hc2
          have hMS0 : MkS S (allS (rows.take k) ++ (el rows (k : Int)).st.take 0) := by simpa using hMS
          have hMQ0 : MkQ Q (allS (rows.take k) ++ (el rows (k : Int)).st.take 0) [] := by simpa using hMQ
          refine wp_skip ?_
          refine n_then ?_
          refine wp_seq ?_
          refine rg ?_
          refine st (mvS rfl) ?_
          refine st (y_len Try.underlying35 rfl) ?_
          refine st (mvI rfl) ?_
          refine rg_end ?_
          refine n_then ?_
          refine wp_block ?_
          refine lp (γ := Nat × List Bool × List Bool) [2, 7, 8, 10, 31, 32, 33, 34, 35, 36, 37, 38, 39, 40, 41, 42, 43, 44, 45, 46, 47, 48, 49, 50, 51, 52, 53, 54, 55, 56, 57, 58, 59, 60, 61, 62, 63, 64, 65, 66, 67] (fun ⟨j, S, Q⟩ => [(31, .int .i64 (j : Int))]) (fun ⟨j, S, Q⟩ w_ => Out bS (bQ + 1) w11 w_ ∧ (j : Int) ≤ (el rows (k : Int)).st.length ∧ (∀ q : Nat, q < j → SgOk (el (el rows (k : Int)).st (q : Int))) ∧ (∀ q : Nat, 0 < q → q < j → (el (el rows (k : Int)).st ((q : Int) - 1)).sec ≠ (el (el rows (k : Int)).st (q : Int)).sec) ∧ MkS S (allS (rows.take k) ++ (el rows (k : Int)).st.take j) ∧ MkQ Q (allS (rows.take k) ++ (el rows (k : Int)).st.take j) [] ∧ Ow 70 encB 1 w.heap.size (bS + 1) w_ (some ⟨bS, 0, none⟩) 144 S ∧ Ow 70 encB 1 w.heap.size (bQ + 1) w_ (some ⟨bQ, 0, none⟩) 144 Q) (fun ⟨j, S, Q⟩ => (el rows (k : Int)).st.length - j) (0, S, Q) ⟨rfl, trivial⟩ ⟨Out.refl _ _ _, by omega, (fun q hq => by omega), (fun q q0 hq => by omega), hMS0, hMQ0, hS, hQ⟩ ?_
          rintro ⟨j, S, Q⟩ hav_ w15 ⟨ho16, hj_, hsg, hnx, hMS2, hMQ2, hS, hQ⟩
          have hlp1 := ho16
          have hz17 := ho16.size
          replace hP := hP.out ho16 (by first | omega | (simp only [blk_some, hi1_some] at *; omega))
          replace hE := hE.step ho16 (by first | omega | (simp only [blk_some, hi1_some] at *; omega))
          replace hlp0 := hlp0.step ho16 (by first | omega | (simp only [blk_some, hi1_some] at *; omega))
          replace hR := hR.out ho16 (by first | omega | (simp only [blk_some, hi1_some] at *; omega))
          refine wp_seq ?_
          refine rg ?_
          refine st (y_lss rfl rfl) ?_
          refine rg_end ?_
          refine n_then ?_
          refine wp_seq ?_
          refine cnd rfl (fun hc3 => ?_) (fun hc3 => ?_)
          ·
            try simp only [decide_eq_true_eq, decide_eq_false_iff_not, Bool.not_eq_true', Bool.not_eq_false', Bool.and_eq_true, Bool.or_eq_true, Bool.or_eq_false_iff, Bool.cond_true_right, Bool.cond_false_right, Bool.cond_true_left, Bool.cond_false_left, ne_eq, Decidable.not_not, bne_iff_ne, beq_iff_eq, beq_eq_false_iff_ne, Bool.not_true, Bool.not_false] at hc3
            have hmj := el_mem (l := (el rows (k : Int)).st) (i := (j : Int)) (by omega) hc3
            have hPt := hP.pts _ hmr _ hmj
            have hpl := (hln _ hmr).2 _ hmj
            refine wp_skip ?_
            refine n_then ?_
            refine wp_seq ?_
            refine wp_block ?_
            refine wp_seq ?_
            refine rg ?_
            refine st (mvI rfl) ?_
            refine st (y_ix hR sl35 rfl (rfl) rfl (by omega) (by omega)) ?_
            refine st (y_lw hR agg44 rfl (by omega) (by omega)) ?_
            refine sd (d_allocA zer44 ?_)
            intro b8 w18 hbb8 hs20 ho19 hb8
            have hz21 := ho19.size
            replace hP := hP.ext ho19
            replace hE := hE.step ho19 (.inl (Nat.le_refl _))
            replace hlp0 := hlp0.step ho19 (.inl (Nat.le_refl _))
            replace hR := hR.ext ho19
            replace hS := hS.ext ho19
            replace hQ := hQ.ext ho19
            replace hlp1 := hlp1.step ho19 (.inl (Nat.le_refl _))
            replace hPt := hPt.ext ho19
            refine st (asI rfl) ?_
            refine sd0 (d_stN hb8 rfl rfl sz44 rfl rfl ?_)
            intro w22 hs24 ho23 hb8'
            clear hb8; have hb8 := hb8'; clear hb8'
            have hz25 := ho23.size
            replace hP := hP.out ho23 (by first | omega | (simp only [blk_some, hi1_some] at *; omega))
            replace hE := hE.step ho23 (by first | omega | (simp only [blk_some, hi1_some] at *; omega))
            replace hlp0 := hlp0.step ho23 (by first | omega | (simp only [blk_some, hi1_some] at *; omega))
            replace hR := hR.out ho23 (by first | omega | (simp only [blk_some, hi1_some] at *; omega))
            have hrnhS := hS.rng
            replace hS := hS.out ho23 (by first | omega | (simp only [blk_some, hi1_some] at *; omega))
            have hrnhQ := hQ.rng
            replace hQ := hQ.out ho23 (by first | omega | (simp only [blk_some, hi1_some] at *; omega))
            replace hlp1 := hlp1.step ho23 (by first | omega | (simp only [blk_some, hi1_some] at *; omega))
            replace hPt := hPt.out ho23 (by first | omega | (simp only [blk_some, hi1_some] at *; omega))
            refine rg_end ?_
            refine n_then ?_
            refine wp_seq ?_
            refine wp_seq ?_
            refine rgD 15 (fun w_ => Ext w22 w_) (fun i => Nat.beq i 1) mixed (by kernel_rfl) ?_
            intro w26 ho27 hs28
            refine ⟨ho27, ?_⟩
            have hx29 := ho27
            refine tn rfl (fun _ hG => y_lbN (hb8.ext hG) agg44 rfl) ?_
            refine tc rfl cl47 (ref35_validStage_ok (el (el rows (k : Int)).st (j : Int)) _ _ _ (hPt.ext hx29) hpl) rfl ?_
            rintro v34 w30 ⟨b, rfl, hb, ho31⟩
            have hx35 := hx29.step ho31 (.inl (Nat.le_refl _))
            have hz36 := ho31.size
            refine ⟨hx35, ?_⟩
            refine tn rfl (fun _ hG => y_not rfl) ?_
            refine tn rfl (fun _ hG => mvB rfl) ?_
            refine gspT 39 rfl (fun hg37 => ?_) (fun hg37 => ?_)
            ·
              have hg37n := hg37; try simp only [decide_eq_true_eq, decide_eq_false_iff_not, Bool.not_eq_true', Bool.not_eq_false', Bool.and_eq_true, Bool.or_eq_true, Bool.or_eq_false_iff, Bool.cond_true_right, Bool.cond_false_right, Bool.cond_true_left, Bool.cond_false_left, ne_eq, Decidable.not_not, bne_iff_ne, beq_iff_eq, beq_eq_false_iff_ne, Bool.not_true, Bool.not_false] at hg37n
              refine tns rfl rfl hg37 ?_
              refine tns rfl rfl hg37 ?_
              refine tns rfl rfl hg37 ?_
              refine tnu rfl rfl ?_
              refine tnu rfl rfl ?_
              refine tnu rfl rfl ?_
              refine tnu rfl rfl ?_
              refine tnu rfl rfl ?_
              refine tnu rfl rfl ?_
              refine tnu rfl rfl ?_
              refine tnu rfl rfl ?_
              refine t_end ?_
              have hz38 := hx35.size
              replace hP := hP.ext hx35
              replace hE := hE.step hx35 (.inl (Nat.le_refl _))
              replace hlp0 := hlp0.step hx35 (.inl (Nat.le_refl _))
              replace hR := hR.ext hx35
              replace hS := hS.ext hx35
              replace hQ := hQ.ext hx35
              replace hlp1 := hlp1.step hx35 (.inl (Nat.le_refl _))
              replace hPt := hPt.ext hx35
              replace hb8 := hb8.ext hx35
              refine stu rfl rfl ?_
              refine sts rfl rfl hg37 ?_
              refine st (y_pickT rfl hg37 (v := .bool _) rfl) ?_
              refine rg_end ?_
              refine n_then ?_
              refine cnd rfl (fun hc4 => ?_) (fun hc4 => absurd hc4 (by decide))
              have hno : ¬ VaP rows := fun h => by
                have h1 := (va_row h hc1).sg j (by omega)
                have h2 := (va_row h hc1).nx j
                first
                | (have h3 := hb.2 h1; rw [show b = false by assumption] at h3; cases h3)
                | exact absurd (by assumption) (h2 (by omega) (by omega))
              refine wp_seq ?_
              refine rg ?_
              refine st (asB rfl) ?_
              refine rg_end ?_
              refine n_then ?_
              refine wp_ret ?_
              refine r_then (r_blk (r_then (r_then (r_blk (r_blk (r_then (r_then (r_blk (r_then (ret1 (v := (.bool _)) Try.results35 rfl ?_))))))))))
              exact ⟨false, rfl, ⟨fun h => (by cases h), fun h => absurd h hno⟩, hE⟩
            ·
              have hg37n := hg37; try simp only [decide_eq_true_eq, decide_eq_false_iff_not, Bool.not_eq_true', Bool.not_eq_false', Bool.and_eq_true, Bool.or_eq_true, Bool.or_eq_false_iff, Bool.cond_true_right, Bool.cond_false_right, Bool.cond_true_left, Bool.cond_false_left, ne_eq, Decidable.not_not, bne_iff_ne, beq_iff_eq, beq_eq_false_iff_ne, Bool.not_true, Bool.not_false] at hg37n
              refine tng rfl rfl rfl hg37 (fun _ hG => mvI rfl) ?_
              refine tng rfl rfl rfl hg37 (fun _ hG => y_gtr rfl rfl) ?_
              refine tng rfl rfl rfl hg37 (fun _ hG => mvB rfl) ?_
              refine gspT 42 rfl (fun hg39 => ?_) (fun hg39 => ?_)
              ·
                have hg39n := hg39; try simp only [decide_eq_true_eq, decide_eq_false_iff_not, Bool.not_eq_true', Bool.not_eq_false', Bool.and_eq_true, Bool.or_eq_true, Bool.or_eq_false_iff, Bool.cond_true_right, Bool.cond_false_right, Bool.cond_true_left, Bool.cond_false_left, ne_eq, Decidable.not_not, bne_iff_ne, beq_iff_eq, beq_eq_false_iff_ne, Bool.not_true, Bool.not_false] at hg39n
                refine tng rfl rfl rfl hg39 (fun _ hG => mvS rfl) ?_
                refine tng rfl rfl rfl hg39 (fun _ hG => mvI rfl) ?_
                refine tng rfl rfl rfl hg39 (fun _ hG => y_sub rfl rfl (by omega)) ?_
                refine tng rfl rfl rfl hg39 (fun _ hG => y_ix (hR.ext hG) sl35 rfl (rfl) rfl (by omega) (by omega)) ?_
                refine tng rfl rfl rfl hg39 (fun _ hG => y_fld fld44_0 rfl) ?_
                refine tng rfl rfl rfl hg39 (fun _ hG => y_lf (hR.ext hG) na3 rfl (by omega) (by omega) rfl) ?_
                refine tng rfl rfl rfl hg39 (fun _ hG => y_fld fld44_0 rfl) ?_
                refine tng rfl rfl rfl hg39 (fun _ hG => y_lb (hb8.ext hG) na3 rfl rfl) ?_
                refine t_end ?_
                have hz40 := hx35.size
                replace hP := hP.ext hx35
                replace hE := hE.step hx35 (.inl (Nat.le_refl _))
                replace hlp0 := hlp0.step hx35 (.inl (Nat.le_refl _))
                replace hR := hR.ext hx35
                replace hS := hS.ext hx35
                replace hQ := hQ.ext hx35
                replace hlp1 := hlp1.step hx35 (.inl (Nat.le_refl _))
                replace hPt := hPt.ext hx35
                replace hb8 := hb8.ext hx35
                refine stg rfl rfl hg39 (y_eql rfl rfl) ?_
                refine stg rfl rfl hg37 (y_pickT rfl hg39 (v := .bool _) rfl) ?_
                refine st (y_pickF rfl hg37 (v := .bool _) rfl) ?_
                refine rg_end ?_
                refine n_then ?_
                refine cnd rfl (fun hc4 => ?_) (fun hc4 => ?_)
                ·
                  try simp only [decide_eq_true_eq, decide_eq_false_iff_not, Bool.not_eq_true', Bool.not_eq_false', Bool.and_eq_true, Bool.or_eq_true, Bool.or_eq_false_iff, Bool.cond_true_right, Bool.cond_false_right, Bool.cond_true_left, Bool.cond_false_left, ne_eq, Decidable.not_not, bne_iff_ne, beq_iff_eq, beq_eq_false_iff_ne, Bool.not_true, Bool.not_false] at hc4
                  have hno : ¬ VaP rows := fun h => by
                    have h1 := (va_row h hc1).sg j (by omega)
                    have h2 := (va_row h hc1).nx j
                    first
                    | (have h3 := hb.2 h1; rw [show b = false by assumption] at h3; cases h3)
                    | exact absurd (by assumption) (h2 (by omega) (by omega))
                  refine wp_seq ?_
                  refine rg ?_
                  refine st (asB rfl) ?_
                  refine rg_end ?_
                  refine n_then ?_
                  refine wp_ret ?_
                  refine r_then (r_blk (r_then (r_then (r_blk (r_blk (r_then (r_then (r_blk (r_then (ret1 (v := (.bool _)) Try.results35 rfl ?_))))))))))
                  exact ⟨false, rfl, ⟨fun h => (by cases h), fun h => absurd h hno⟩, hE⟩
                ·
                  try simp only [decide_eq_true_eq, decide_eq_false_iff_not, Bool.not_eq_true', Bool.not_eq_false', Bool.and_eq_true, Bool.or_eq_true, Bool.or_eq_false_iff, Bool.cond_true_right, Bool.cond_false_right, Bool.cond_true_left, Bool.cond_false_left, ne_eq, Decidable.not_not, bne_iff_ne, beq_iff_eq, beq_eq_false_iff_ne, Bool.not_true, Bool.not_false] at hc4
                  have hbt : b = true := by assumption
                  have hso := hb.1 hbt
                  have s0 := hso.s0
                  have s1 := hso.s1
                  have hsl := hMS2.1
                  have hql := hMQ2.1
                  have hnx1 : ∀ q : Nat, 0 < q → q < j + 1 → (el (el rows (k : Int)).st ((q : Int) - 1)).sec ≠ (el (el rows (k : Int)).st (q : Int)).sec := fun q q0 hq => by
                    by_cases e : q = j
                    · subst e; first | assumption | omega
                    · exact hnx q q0 (by omega)
                  have hsg1 : ∀ q : Nat, q < j + 1 → SgOk (el (el rows (k : Int)).st (q : Int)) := fun q hq => by
                    by_cases e : q = j
                    · subst e; exact hso
                    · exact hsg q (by omega)
                  refine wp_skip ?_
                  refine n_then ?_
                  refine wp_seq ?_
                  refine rg ?_
                  refine st (y_fld fld44_0 rfl) ?_
                  refine st (y_lb hb8 na3 rfl rfl) ?_
                  refine st (y_ixR Try.underlying70 sz4 rfl rfl rfl (by omega) (by omega)) ?_
                  refine sd0 (d_se (j := 0) (e' := true) hS sz4 rfl rfl rfl (by omega) (by omega) (Nat.le_of_ble_eq_true rfl) rfl ?_)
                  intro w41 hs43 ho42 hS'
                  have hrhS := hS.rng
                  clear hS; have hS := hS'; clear hS'
                  have hz44 := ho42.size
                  replace hP := hP.out ho42 (by first | omega | (simp only [blk_some, hi1_some] at *; omega))
                  replace hE := hE.step ho42 (by first | omega | (simp only [blk_some, hi1_some] at *; omega))
                  replace hlp0 := hlp0.step ho42 (by first | omega | (simp only [blk_some, hi1_some] at *; omega))
                  replace hR := hR.out ho42 (by first | omega | (simp only [blk_some, hi1_some] at *; omega))
                  replace hQ := hQ.out ho42 (by first | omega | (simp only [blk_some, hi1_some] at *; omega))
                  replace hlp1 := hlp1.step ho42 (by first | omega | (simp only [blk_some, hi1_some] at *; omega))
                  replace hPt := hPt.out ho42 (by first | omega | (simp only [blk_some, hi1_some] at *; omega))
                  replace hb8 := hb8.out ho42 (by first | omega | (simp only [blk_some, hi1_some] at *; omega))
                  have hMS3 := hMS2.put (s := (el (el rows (k : Int)).st (j : Int))) s0 s1
                  rw [List.append_assoc, ← tkS hc3] at hMS3
                  have hsl3 := hMS3.1
                  refine rg_end ?_
                  refine n_then ?_
                  refine wp_seq ?_
                  refine rg ?_
                  refine st (y_fld fld44_1 rfl) ?_
                  refine st (y_lb hb8 na22 rfl rfl) ?_
                  refine st (y_len Try.underlying22 rfl) ?_
                  refine st (mvI rfl) ?_
                  refine rg_end ?_
                  refine n_then ?_
                  refine wp_block ?_
                  refine lp (γ := Nat × List Bool) [10, 60, 61, 62, 63, 64, 65, 66] (fun ⟨q, Q2⟩ => [(60, .int .i64 (q : Int))]) (fun ⟨q, Q2⟩ w_ => Out bS (bQ + 1) w41 w_ ∧ (q : Int) ≤ (el (el rows (k : Int)).st (j : Int)).pts.length ∧ MkQ Q2 (allS (rows.take k) ++ (el rows (k : Int)).st.take j) ((el (el rows (k : Int)).st (j : Int)).pts.take q) ∧ Ow 70 encB 1 w.heap.size (bS + 1) w_ (some ⟨bS, 0, none⟩) 144 (S.set (el (el rows (k : Int)).st (j : Int)).sec.toNat true) ∧ Ow 70 encB 1 w.heap.size (bQ + 1) w_ (some ⟨bQ, 0, none⟩) 144 Q2) (fun ⟨q, Q2⟩ => (el (el rows (k : Int)).st (j : Int)).pts.length - q) (0, Q) ⟨rfl, trivial⟩ ⟨Out.refl _ _ _, by omega, by simpa using hMQ2, hS, hQ⟩ ?_
                  rintro ⟨q, Q2⟩ hav_ w45 ⟨ho46, hq_, hMQ3, hS, hQ⟩
                  have hlp2 := ho46
                  have hz47 := ho46.size
                  replace hP := hP.out ho46 (by first | omega | (simp only [blk_some, hi1_some] at *; omega))
                  replace hE := hE.step ho46 (by first | omega | (simp only [blk_some, hi1_some] at *; omega))
                  replace hlp0 := hlp0.step ho46 (by first | omega | (simp only [blk_some, hi1_some] at *; omega))
                  replace hR := hR.out ho46 (by first | omega | (simp only [blk_some, hi1_some] at *; omega))
                  replace hlp1 := hlp1.step ho46 (by first | omega | (simp only [blk_some, hi1_some] at *; omega))
                  replace hPt := hPt.out ho46 (by first | omega | (simp only [blk_some, hi1_some] at *; omega))
                  replace hb8 := hb8.out ho46 (by first | omega | (simp only [blk_some, hi1_some] at *; omega))
                  refine wp_seq ?_
                  refine rg ?_
                  refine st (y_lss rfl rfl) ?_
                  refine rg_end ?_
                  refine n_then ?_
                  refine wp_seq ?_
                  refine cnd rfl (fun hc5 => ?_) (fun hc5 => ?_)
                  ·
                    try simp only [decide_eq_true_eq, decide_eq_false_iff_not, Bool.not_eq_true', Bool.not_eq_false', Bool.and_eq_true, Bool.or_eq_true, Bool.or_eq_false_iff, Bool.cond_true_right, Bool.cond_false_right, Bool.cond_true_left, Bool.cond_false_left, ne_eq, Decidable.not_not, bne_iff_ne, beq_iff_eq, beq_eq_false_iff_ne, Bool.not_true, Bool.not_false] at hc5
                    have hpp := hso.pt q (by omega)
                    have hql2 := hMQ3.1
                    refine wp_skip ?_
                    refine n_then ?_
                    refine wp_seq ?_
                    refine wp_block ?_
                    refine wp_seq ?_
                    refine rg ?_
                    refine st (y_ix hPt sl22 rfl (rfl) rfl (by omega) (by omega)) ?_
                    refine st (y_le hPt na3 rfl (by omega) (by omega) rfl) ?_
                    refine st (asI rfl) ?_
                    refine rg_end ?_
                    refine n_then ?_
                    refine rg ?_
                    refine st (mvI rfl) ?_
                    refine st (y_ixR Try.underlying70 sz4 rfl rfl rfl (by omega) (by omega)) ?_
                    refine sd0 (d_se (j := 0) (e' := true) hQ sz4 rfl rfl rfl (by omega) (by omega) (Nat.le_of_ble_eq_true rfl) rfl ?_)
                    intro w48 hs50 ho49 hQ'
                    have hrhQ := hQ.rng
                    clear hQ; have hQ := hQ'; clear hQ'
                    have hz51 := ho49.size
                    replace hP := hP.out ho49 (by first | omega | (simp only [blk_some, hi1_some] at *; omega))
                    replace hE := hE.step ho49 (by first | omega | (simp only [blk_some, hi1_some] at *; omega))
                    replace hlp0 := hlp0.step ho49 (by first | omega | (simp only [blk_some, hi1_some] at *; omega))
                    replace hR := hR.out ho49 (by first | omega | (simp only [blk_some, hi1_some] at *; omega))
                    replace hlp1 := hlp1.step ho49 (by first | omega | (simp only [blk_some, hi1_some] at *; omega))
                    replace hPt := hPt.out ho49 (by first | omega | (simp only [blk_some, hi1_some] at *; omega))
                    replace hb8 := hb8.out ho49 (by first | omega | (simp only [blk_some, hi1_some] at *; omega))
                    have hrnhS := hS.rng
                    replace hS := hS.out ho49 (by first | omega | (simp only [blk_some, hi1_some] at *; omega))
                    replace hlp2 := hlp2.step ho49 (by first | omega | (simp only [blk_some, hi1_some] at *; omega))
                    have hMQ5 := hMQ3.put (p := el (el (el rows (k : Int)).st (j : Int)).pts (q : Int)) hpp.1 hpp.2.1
                    rw [← tkS hc5] at hMQ5
                    refine rg_end ?_
                    refine n_blk ?_
                    refine n_then ?_
                    refine rg ?_
                    refine st (y_add rfl rfl (by omega)) ?_
                    refine st (mvI rfl) ?_
                    refine rg_end ?_
                    exact n_then ⟨(q + 1, _), _, rfl, same_lk rfl (same_h0), ⟨rfl, trivial⟩, ⟨hlp2, by omega, hMQ5, hS, hQ⟩, by first | omega | (dsimp only; omega)⟩
                  ·
                    try simp only [decide_eq_true_eq, decide_eq_false_iff_not, Bool.not_eq_true', Bool.not_eq_false', Bool.and_eq_true, Bool.or_eq_true, Bool.or_eq_false_iff, Bool.cond_true_right, Bool.cond_false_right, Bool.cond_true_left, Bool.cond_false_left, ne_eq, Decidable.not_not, bne_iff_ne, beq_iff_eq, beq_eq_false_iff_ne, Bool.not_true, Bool.not_false] at hc5
                    have hqe : (el (el rows (k : Int)).st (j : Int)).pts.take q = (el (el rows (k : Int)).st (j : Int)).pts := tkE hc5
                    have hMQ4 : MkQ Q2 (allS (rows.take k) ++ (el rows (k : Int)).st.take (j + 1)) [] := by
                      rw [hqe] at hMQ3
                      have := hMQ3.done
                      rwa [List.append_assoc, ← tkS hc3] at this
                    refine wp_exit ?_
                    refine e_then (e_then (e_blk (?_)))
                    refine n_blk ?_
                    refine n_then ?_
                    refine rg ?_
                    refine st (y_add rfl rfl (by omega)) ?_
                    refine st (mvI rfl) ?_
                    refine rg_end ?_
                    exact n_then ⟨(j + 1, _, Q2), _, rfl, same_lk rfl (same_hav rfl (same_lk rfl (same_h0))), ⟨rfl, trivial⟩, ⟨hlp1, by omega, hsg1, hnx1, hMS3, hMQ4, hS, hQ⟩, by first | omega | (dsimp only; omega)⟩
              ·
                have hg39n := hg39; try simp only [decide_eq_true_eq, decide_eq_false_iff_not, Bool.not_eq_true', Bool.not_eq_false', Bool.and_eq_true, Bool.or_eq_true, Bool.or_eq_false_iff, Bool.cond_true_right, Bool.cond_false_right, Bool.cond_true_left, Bool.cond_false_left, ne_eq, Decidable.not_not, bne_iff_ne, beq_iff_eq, beq_eq_false_iff_ne, Bool.not_true, Bool.not_false] at hg39n
                refine tns rfl rfl hg39 ?_
                refine tns rfl rfl hg39 ?_
                refine tns rfl rfl hg39 ?_
                refine tns rfl rfl hg39 ?_
                refine tns rfl rfl hg39 ?_
                refine tns rfl rfl hg39 ?_
                refine tns rfl rfl hg39 ?_
                refine tns rfl rfl hg39 ?_
                refine t_end ?_
                have hz52 := hx35.size
                replace hP := hP.ext hx35
                replace hE := hE.step hx35 (.inl (Nat.le_refl _))
                replace hlp0 := hlp0.step hx35 (.inl (Nat.le_refl _))
                replace hR := hR.ext hx35
                replace hS := hS.ext hx35
                replace hQ := hQ.ext hx35
                replace hlp1 := hlp1.step hx35 (.inl (Nat.le_refl _))
                replace hPt := hPt.ext hx35
                replace hb8 := hb8.ext hx35
                refine sts rfl rfl hg39 ?_
                refine stg rfl rfl hg37 (y_pickF rfl hg39 (v := .bool _) rfl) ?_
                refine st (y_pickF rfl hg37 (v := .bool _) rfl) ?_
                refine rg_end ?_
                refine n_then ?_
                refine cnd rfl (fun hc4 => absurd hc4 (by decide)) (fun hc4 => ?_)
                have hbt : b = true := by assumption
                have hso := hb.1 hbt
                have s0 := hso.s0
                have s1 := hso.s1
                have hsl := hMS2.1
                have hql := hMQ2.1
                have hnx1 : ∀ q : Nat, 0 < q → q < j + 1 → (el (el rows (k : Int)).st ((q : Int) - 1)).sec ≠ (el (el rows (k : Int)).st (q : Int)).sec := fun q q0 hq => by
                  by_cases e : q = j
                  · subst e; first | assumption | omega
                  · exact hnx q q0 (by omega)
                have hsg1 : ∀ q : Nat, q < j + 1 → SgOk (el (el rows (k : Int)).st (q : Int)) := fun q hq => by
                  by_cases e : q = j
                  · subst e; exact hso
                  · exact hsg q (by omega)
                refine wp_skip ?_
                refine n_then ?_
                refine wp_seq ?_
                refine rg ?_
                refine st (y_fld fld44_0 rfl) ?_
                refine st (y_lb hb8 na3 rfl rfl) ?_
                refine st (y_ixR Try.underlying70 sz4 rfl rfl rfl (by omega) (by omega)) ?_
                refine sd0 (d_se (j := 0) (e' := true) hS sz4 rfl rfl rfl (by omega) (by omega) (Nat.le_of_ble_eq_true rfl) rfl ?_)
                intro w53 hs55 ho54 hS'
                have hrhS := hS.rng
                clear hS; have hS := hS'; clear hS'
                have hz56 := ho54.size
                replace hP := hP.out ho54 (by first | omega | (simp only [blk_some, hi1_some] at *; omega))
                replace hE := hE.step ho54 (by first | omega | (simp only [blk_some, hi1_some] at *; omega))
                replace hlp0 := hlp0.step ho54 (by first | omega | (simp only [blk_some, hi1_some] at *; omega))
                replace hR := hR.out ho54 (by first | omega | (simp only [blk_some, hi1_some] at *; omega))
                replace hQ := hQ.out ho54 (by first | omega | (simp only [blk_some, hi1_some] at *; omega))
                replace hlp1 := hlp1.step ho54 (by first | omega | (simp only [blk_some, hi1_some] at *; omega))
                replace hPt := hPt.out ho54 (by first | omega | (simp only [blk_some, hi1_some] at *; omega))
                replace hb8 := hb8.out ho54 (by first | omega | (simp only [blk_some, hi1_some] at *; omega))
                have hMS3 := hMS2.put (s := (el (el rows (k : Int)).st (j : Int))) s0 s1
                rw [List.append_assoc, ← tkS hc3] at hMS3
                have hsl3 := hMS3.1
                refine rg_end ?_
                refine n_then ?_
                refine wp_seq ?_
                refine rg ?_
                refine st (y_fld fld44_1 rfl) ?_
                refine st (y_lb hb8 na22 rfl rfl) ?_
                refine st (y_len Try.underlying22 rfl) ?_
                refine st (mvI rfl) ?_
                refine rg_end ?_
                refine n_then ?_
                refine wp_block ?_
                refine lp (γ := Nat × List Bool) [10, 60, 61, 62, 63, 64, 65, 66] (fun ⟨q, Q2⟩ => [(60, .int .i64 (q : Int))]) (fun ⟨q, Q2⟩ w_ => Out bS (bQ + 1) w53 w_ ∧ (q : Int) ≤ (el (el rows (k : Int)).st (j : Int)).pts.length ∧ MkQ Q2 (allS (rows.take k) ++ (el rows (k : Int)).st.take j) ((el (el rows (k : Int)).st (j : Int)).pts.take q) ∧ Ow 70 encB 1 w.heap.size (bS + 1) w_ (some ⟨bS, 0, none⟩) 144 (S.set (el (el rows (k : Int)).st (j : Int)).sec.toNat true) ∧ Ow 70 encB 1 w.heap.size (bQ + 1) w_ (some ⟨bQ, 0, none⟩) 144 Q2) (fun ⟨q, Q2⟩ => (el (el rows (k : Int)).st (j : Int)).pts.length - q) (0, Q) ⟨rfl, trivial⟩ ⟨Out.refl _ _ _, by omega, by simpa using hMQ2, hS, hQ⟩ ?_
                rintro ⟨q, Q2⟩ hav_ w57 ⟨ho58, hq_, hMQ3, hS, hQ⟩
                have hlp2 := ho58
                have hz59 := ho58.size
                replace hP := hP.out ho58 (by first | omega | (simp only [blk_some, hi1_some] at *; omega))
                replace hE := hE.step ho58 (by first | omega | (simp only [blk_some, hi1_some] at *; omega))
                replace hlp0 := hlp0.step ho58 (by first | omega | (simp only [blk_some, hi1_some] at *; omega))
                replace hR := hR.out ho58 (by first | omega | (simp only [blk_some, hi1_some] at *; omega))
                replace hlp1 := hlp1.step ho58 (by first | omega | (simp only [blk_some, hi1_some] at *; omega))
                replace hPt := hPt.out ho58 (by first | omega | (simp only [blk_some, hi1_some] at *; omega))
                replace hb8 := hb8.out ho58 (by first | omega | (simp only [blk_some, hi1_some] at *; omega))
                refine wp_seq ?_
                refine rg ?_
                refine st (y_lss rfl rfl) ?_
                refine rg_end ?_
                refine n_then ?_
                refine wp_seq ?_
                refine cnd rfl (fun hc5 => ?_) (fun hc5 => ?_)
                ·
                  try simp only [decide_eq_true_eq, decide_eq_false_iff_not, Bool.not_eq_true', Bool.not_eq_false', Bool.and_eq_true, Bool.or_eq_true, Bool.or_eq_false_iff, Bool.cond_true_right, Bool.cond_false_right, Bool.cond_true_left, Bool.cond_false_left, ne_eq, Decidable.not_not, bne_iff_ne, beq_iff_eq, beq_eq_false_iff_ne, Bool.not_true, Bool.not_false] at hc5
                  have hpp := hso.pt q (by omega)
                  have hql2 := hMQ3.1
                  refine wp_skip ?_
                  refine n_then ?_
                  refine wp_seq ?_
                  refine wp_block ?_
                  refine wp_seq ?_
                  refine rg ?_
                  refine st (y_ix hPt sl22 rfl (rfl) rfl (by omega) (by omega)) ?_
                  refine st (y_le hPt na3 rfl (by omega) (by omega) rfl) ?_
                  refine st (asI rfl) ?_
                  refine rg_end ?_
                  refine n_then ?_
                  refine rg ?_
                  refine st (mvI rfl) ?_
                  refine st (y_ixR Try.underlying70 sz4 rfl rfl rfl (by omega) (by omega)) ?_
                  refine sd0 (d_se (j := 0) (e' := true) hQ sz4 rfl rfl rfl (by omega) (by omega) (Nat.le_of_ble_eq_true rfl) rfl ?_)
                  intro w60 hs62 ho61 hQ'
                  have hrhQ := hQ.rng
                  clear hQ; have hQ := hQ'; clear hQ'
                  have hz63 := ho61.size
                  replace hP := hP.out ho61 (by first | omega | (simp only [blk_some, hi1_some] at *; omega))
                  replace hE := hE.step ho61 (by first | omega | (simp only [blk_some, hi1_some] at *; omega))
                  replace hlp0 := hlp0.step ho61 (by first | omega | (simp only [blk_some, hi1_some] at *; omega))
                  replace hR := hR.out ho61 (by first | omega | (simp only [blk_some, hi1_some] at *; omega))
                  replace hlp1 := hlp1.step ho61 (by first | omega | (simp only [blk_some, hi1_some] at *; omega))
                  replace hPt := hPt.out ho61 (by first | omega | (simp only [blk_some, hi1_some] at *; omega))
                  replace hb8 := hb8.out ho61 (by first | omega | (simp only [blk_some, hi1_some] at *; omega))
                  have hrnhS := hS.rng
                  replace hS := hS.out ho61 (by first | omega | (simp only [blk_some, hi1_some] at *; omega))
                  replace hlp2 := hlp2.step ho61 (by first | omega | (simp only [blk_some, hi1_some] at *; omega))
                  have hMQ5 := hMQ3.put (p := el (el (el rows (k : Int)).st (j : Int)).pts (q : Int)) hpp.1 hpp.2.1
                  rw [← tkS hc5] at hMQ5
                  refine rg_end ?_
                  refine n_blk ?_
                  refine n_then ?_
                  refine rg ?_
                  refine st (y_add rfl rfl (by omega)) ?_
                  refine st (mvI rfl) ?_
                  refine rg_end ?_
                  exact n_then ⟨(q + 1, _), _, rfl, same_lk rfl (same_h0), ⟨rfl, trivial⟩, ⟨hlp2, by omega, hMQ5, hS, hQ⟩, by first | omega | (dsimp only; omega)⟩
                ·
                  try simp only [decide_eq_true_eq, decide_eq_false_iff_not, Bool.not_eq_true', Bool.not_eq_false', Bool.and_eq_true, Bool.or_eq_true, Bool.or_eq_false_iff, Bool.cond_true_right, Bool.cond_false_right, Bool.cond_true_left, Bool.cond_false_left, ne_eq, Decidable.not_not, bne_iff_ne, beq_iff_eq, beq_eq_false_iff_ne, Bool.not_true, Bool.not_false] at hc5
                  have hqe : (el (el rows (k : Int)).st (j : Int)).pts.take q = (el (el rows (k : Int)).st (j : Int)).pts := tkE hc5
                  have hMQ4 : MkQ Q2 (allS (rows.take k) ++ (el rows (k : Int)).st.take (j + 1)) [] := by
                    rw [hqe] at hMQ3
                    have := hMQ3.done
                    rwa [List.append_assoc, ← tkS hc3] at this
                  refine wp_exit ?_
                  refine e_then (e_then (e_blk (?_)))
                  refine n_blk ?_
                  refine n_then ?_
                  refine rg ?_
                  refine st (y_add rfl rfl (by omega)) ?_
                  refine st (mvI rfl) ?_
                  refine rg_end ?_
                  exact n_then ⟨(j + 1, _, Q2), _, rfl, same_lk rfl (same_hav rfl (same_lk rfl (same_h0))), ⟨rfl, trivial⟩, ⟨hlp1, by omega, hsg1, hnx1, hMS3, hMQ4, hS, hQ⟩, by first | omega | (dsimp only; omega)⟩
          ·
            try simp only [decide_eq_true_eq, decide_eq_false_iff_not, Bool.not_eq_true', Bool.not_eq_false', Bool.and_eq_true, Bool.or_eq_true, Bool.or_eq_false_iff, Bool.cond_true_right, Bool.cond_false_right, Bool.cond_true_left, Bool.cond_false_left, ne_eq, Decidable.not_not, bne_iff_ne, beq_iff_eq, beq_eq_false_iff_ne, Bool.not_true, Bool.not_false] at hc3
            have hje : (el rows (k : Int)).st.take j = (el rows (k : Int)).st := tkE hc3
            have hjl : j = (el rows (k : Int)).st.length := by omega
            have hrow1 : ∀ i : Nat, i < k + 1 → RowOk (el rows (i : Int)) := fun i hi => by
              by_cases e : i = k
              · subst e; exact ⟨by omega, by omega, fun q hq => hsg q (by omega), fun q q0 hq => hnx q q0 (by omega)⟩
              · exact hrow i (by omega)
            have hMS1 : MkS S (allS (rows.take (k + 1))) := by rw [allS_take hc1, ← hje]; exact hMS2
            have hMQ1 : MkQ Q (allS (rows.take (k + 1))) [] := by rw [allS_take hc1, ← hje]; exact hMQ2
            refine wp_exit ?_
            refine e_then (e_then (e_blk (?_)))
            refine n_blk ?_
            refine n_then ?_
            refine rg ?_
            refine st (y_add rfl rfl (by omega)) ?_
            refine st (mvI rfl) ?_
            refine rg_end ?_
            exact n_then ⟨(k + 1, S, Q), _, rfl, same_lk rfl (same_hav rfl (same_lk rfl (same_h0))), ⟨rfl, trivial⟩, ⟨hlp0, by omega, hrow1, hMS1, hMQ1, hS, hQ⟩, by first | omega | (dsimp only; omega)⟩
    ·
      try simp only [decide_eq_true_eq, decide_eq_false_iff_not, Bool.not_eq_true', Bool.not_eq_false', Bool.and_eq_true, Bool.or_eq_true, Bool.or_eq_false_iff, Bool.cond_true_right, Bool.cond_false_right, Bool.cond_true_left, Bool.cond_false_left, ne_eq, Decidable.not_not, bne_iff_ne, beq_iff_eq, beq_eq_false_iff_ne, Bool.not_true, Bool.not_false] at hc1
      have hke : rows.take k = rows := tkE hc1
      rw [hke] at hMS hMQ
      refine wp_exit ?_
      refine e_then (e_then (e_blk (?_)))
      refine n_then ?_
      refine wp_seq ?_
      refine wp_seq ?_
      refine rg ?_
      refine st (mvI rfl) ?_
      refine rg_end ?_
      refine n_then ?_
      refine wp_block ?_
      refine lp (γ := Nat) [2, 11, 69, 70, 71, 72, 73, 74, 75, 76, 77, 78, 79, 80] (fun r => [(69, .int .i64 (r : Int))]) (fun r w_ => Ext w11 w_ ∧ (r : Int) ≤ 144 ∧ ∀ q : Nat, q < r → ¬ (el S (q : Int) = true ∧ el Q (q : Int) = true)) (fun r => 144 - r) 0 ⟨rfl, trivial⟩ ⟨Out.refl _ _ _, by omega, fun q hq => by omega⟩ ?_
      rintro r hav_ w64 ⟨ho65, hr_, hnn⟩
      have hlp3 := ho65
      have hz66 := ho65.size
      replace hP := hP.ext ho65
      replace hE := hE.step ho65 (.inl (Nat.le_refl _))
      replace hS := hS.ext ho65
      replace hQ := hQ.ext ho65
      refine wp_seq ?_
      refine rg ?_
      refine st (y_lss rfl rfl) ?_
      refine rg_end ?_
      refine n_then ?_
      refine wp_seq ?_
      refine cnd rfl (fun hc6 => ?_) (fun hc6 => ?_)
      ·
        try simp only [decide_eq_true_eq, decide_eq_false_iff_not, Bool.not_eq_true', Bool.not_eq_false', Bool.and_eq_true, Bool.or_eq_true, Bool.or_eq_false_iff, Bool.cond_true_right, Bool.cond_false_right, Bool.cond_true_left, Bool.cond_false_left, ne_eq, Decidable.not_not, bne_iff_ne, beq_iff_eq, beq_eq_false_iff_ne, Bool.not_true, Bool.not_false] at hc6
        have hsl := hMS.1
        have hql := hMQ.1
        refine wp_skip ?_
        refine n_then ?_
        refine wp_seq ?_
        refine wp_block ?_
        refine wp_seq ?_
        refine rg ?_
        refine st (mvI rfl) ?_
        refine st (asI rfl) ?_
        refine rg_end ?_
        refine n_then ?_
        refine wp_seq ?_
        refine rg ?_
        refine st (mvI rfl) ?_
        refine st (y_ixR Try.underlying70 sz4 rfl rfl rfl (by omega) (by omega)) ?_
        refine st (y_le hS.sl na4 rfl (by omega) (by omega) rfl) ?_
        refine st (mvB rfl) ?_
        refine gspL 75 rfl (fun hg67 => ?_) (fun hg67 => ?_)
        ·
          have hg67n := hg67; try simp only [decide_eq_true_eq, decide_eq_false_iff_not, Bool.not_eq_true', Bool.not_eq_false', Bool.and_eq_true, Bool.or_eq_true, Bool.or_eq_false_iff, Bool.cond_true_right, Bool.cond_false_right, Bool.cond_true_left, Bool.cond_false_left, ne_eq, Decidable.not_not, bne_iff_ne, beq_iff_eq, beq_eq_false_iff_ne, Bool.not_true, Bool.not_false] at hg67n
          refine stg rfl rfl hg67 (mvI rfl) ?_
          refine stg rfl rfl hg67 (y_ixR Try.underlying70 sz4 rfl rfl rfl (by omega) (by omega)) ?_
          refine stg rfl rfl hg67 (y_le hQ.sl na4 rfl (by omega) (by omega) rfl) ?_
          refine st (y_pickT rfl hg67 (v := .bool _) rfl) ?_
          refine rg_end ?_
          refine n_then ?_
          refine cnd rfl (fun hc7 => ?_) (fun hc7 => ?_)
          ·
            try simp only [decide_eq_true_eq, decide_eq_false_iff_not, Bool.not_eq_true', Bool.not_eq_false', Bool.and_eq_true, Bool.or_eq_true, Bool.or_eq_false_iff, Bool.cond_true_right, Bool.cond_false_right, Bool.cond_true_left, Bool.cond_false_left, ne_eq, Decidable.not_not, bne_iff_ne, beq_iff_eq, beq_eq_false_iff_ne, Bool.not_true, Bool.not_false] at hc7
            have hno : ¬ VaP rows := va_no hMS hMQ (r := r) (by omega) (by assumption) (by assumption)
            refine wp_seq ?_
            refine rg ?_
            refine st (asB rfl) ?_
            refine rg_end ?_
            refine n_then ?_
            refine wp_ret ?_
            refine r_blk (r_then (r_then (r_blk (r_then (ret1 (v := (.bool _)) Try.results35 rfl ?_)))))
            exact ⟨false, rfl, ⟨fun h => (by cases h), fun h => absurd h hno⟩, hE⟩
          ·
            try simp only [decide_eq_true_eq, decide_eq_false_iff_not, Bool.not_eq_true', Bool.not_eq_false', Bool.and_eq_true, Bool.or_eq_true, Bool.or_eq_false_iff, Bool.cond_true_right, Bool.cond_false_right, Bool.cond_true_left, Bool.cond_false_left, ne_eq, Decidable.not_not, bne_iff_ne, beq_iff_eq, beq_eq_false_iff_ne, Bool.not_true, Bool.not_false] at hc7
            have hnn1 : ∀ q : Nat, q < r + 1 → ¬ (el S (q : Int) = true ∧ el Q (q : Int) = true) := fun q hq => by
              by_cases e : q = r
              · subst e
                rintro ⟨h1, h2⟩
                first
                | (rw [show el S (q : Int) = false by assumption] at h1; cases h1)
                | (rw [show el Q (q : Int) = false by assumption] at h2; cases h2)
              · exact hnn q (by omega)
            refine wp_skip ?_
            refine n_blk ?_
            refine n_then ?_
            refine rg ?_
            refine st (y_add rfl rfl (by omega)) ?_
            refine st (mvI rfl) ?_
            refine rg_end ?_
            exact n_then ⟨r + 1, _, rfl, same_lk rfl (same_h0), ⟨rfl, trivial⟩, ⟨hlp3, by omega, hnn1⟩, by first | omega | (dsimp only; omega)⟩
        ·
          have hg67n := hg67; try simp only [decide_eq_true_eq, decide_eq_false_iff_not, Bool.not_eq_true', Bool.not_eq_false', Bool.and_eq_true, Bool.or_eq_true, Bool.or_eq_false_iff, Bool.cond_true_right, Bool.cond_false_right, Bool.cond_true_left, Bool.cond_false_left, ne_eq, Decidable.not_not, bne_iff_ne, beq_iff_eq, beq_eq_false_iff_ne, Bool.not_true, Bool.not_false] at hg67n
          refine sts rfl rfl hg67 ?_
          refine sts rfl rfl hg67 ?_
          refine sts rfl rfl hg67 ?_
          refine st (y_pickF rfl hg67 (v := .bool _) rfl) ?_
          refine rg_end ?_
          refine n_then ?_
          refine cnd rfl (fun hc7 => absurd hc7 (by decide)) (fun hc7 => ?_)
          have hnn1 : ∀ q : Nat, q < r + 1 → ¬ (el S (q : Int) = true ∧ el Q (q : Int) = true) := fun q hq => by
            by_cases e : q = r
            · subst e
              rintro ⟨h1, h2⟩
              first
              | (rw [show el S (q : Int) = false by assumption] at h1; cases h1)
              | (rw [show el Q (q : Int) = false by assumption] at h2; cases h2)
            · exact hnn q (by omega)
          refine wp_skip ?_
          refine n_blk ?_
          refine n_then ?_
          refine rg ?_
          refine st (y_add rfl rfl (by omega)) ?_
          refine st (mvI rfl) ?_
          refine rg_end ?_
          exact n_then ⟨r + 1, _, rfl, same_lk rfl (same_h0), ⟨rfl, trivial⟩, ⟨hlp3, by omega, hnn1⟩, by first | omega | (dsimp only; omega)⟩
      ·
        try simp only [decide_eq_true_eq, decide_eq_false_iff_not, Bool.not_eq_true', Bool.not_eq_false', Bool.and_eq_true, Bool.or_eq_true, Bool.or_eq_false_iff, Bool.cond_true_right, Bool.cond_false_right, Bool.cond_true_left, Bool.cond_false_left, ne_eq, Decidable.not_not, bne_iff_ne, beq_iff_eq, beq_eq_false_iff_ne, Bool.not_true, Bool.not_false] at hc6
        have hva := va_end hlen (fun i hi => hrow i (by omega)) hMS hMQ (fun q hq => hnn q (by omega))
        refine wp_exit ?_
        refine e_then (e_then (e_blk (?_)))
        refine n_then ?_
        refine wp_seq ?_
        refine rg ?_
        refine st (asB rfl) ?_
        refine rg_end ?_
        refine n_then ?_
        refine wp_ret ?_
        refine ret1 (v := (.bool _)) Try.results35 rfl ?_
        exact ⟨true, rfl, ⟨fun _ => hva, fun _ => rfl⟩, hE⟩
end Go.Proofs.Yteicgnmggkhlbaa
