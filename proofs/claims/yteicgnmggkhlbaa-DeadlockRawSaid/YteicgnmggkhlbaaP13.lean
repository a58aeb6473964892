/-
  Walks of the functions, printed by a program out of the code and the loops' relations.
-/
import Derived.Test.YteicgnmggkhlbaaWkS
import Derived.Test.YteicgnmggkhlbaaProg
import Derived.KernelRfl
import Derived.Test.YteicgnmggkhlbaaP12
namespace Go.Proofs.Yteicgnmggkhlbaa
open Go.Wk Go.RowKit
set_option linter.unusedVariables false
set_option linter.unusedSimpArgs false
theorem cl42 : Callable Try.prog 42 := ⟨Try.call42⟩
theorem cl51 : Callable Try.prog 51 := ⟨Try.call51⟩

set_option maxRecDepth 100000 in
theorem slices_Index_ok (l : List Int) (al : Option Addr) (cl ll hl : Nat) (x : Int) (w : World) (hL : Ints ll hl w al l) (hn : (l.length : Int) ≤ 9223372036854775807) : Cal Try.prog 51 [.slice al l.length cl, .int .i64 x] w (fun v w' => ∃ i : Int, v = .int .i64 i ∧ ((x ∈ l ∧ 0 ≤ i ∧ i < l.length ∧ el l i = x) ∨ (¬ x ∈ l ∧ i = -1)) ∧ Ext w w') := by
  replace hL := Ints.full hL
  have hE : Out 0 0 w w := Out.refl _ _ w
  refine enter Try.func51 rfl Try.ntmps51 rfl ?_
  refine wp_seq ?_
  refine rg ?_
  refine st (asI rfl) ?_
  refine rg_end ?_
  refine n_then ?_
  refine wp_seq ?_
  refine wp_seq ?_
  refine rg ?_
  refine st (mvS rfl) ?_
  refine st (y_len Try.underlying22 rfl) ?_
  refine st (mvI rfl) ?_
  refine rg_end ?_
  refine n_then ?_
  refine wp_block ?_
  refine lp (γ := Nat) [4, 5, 8, 9, 10, 11, 12, 13, 14, 15, 16, 17, 18] (fun k => [(8, .int .i64 (k : Int))]) (fun k w_ => Ext w w_ ∧ (k : Int) ≤ l.length ∧ ∀ q : Nat, q < k → el l (q : Int) ≠ x) (fun k => l.length - k) 0 ⟨rfl, trivial⟩ ⟨Out.refl _ _ _, by omega, fun q hq => by omega⟩ ?_
  rintro k hav_ w1 ⟨ho2, hk, hall⟩
  have hlp0 := ho2
  have hz3 := ho2.size
  replace hL := hL.ext ho2
  replace hE := hE.step ho2 (.inl (Nat.le_refl _))
  refine wp_seq ?_
  refine rg ?_
  refine st (y_lss rfl rfl) ?_
  refine rg_end ?_
  refine n_then ?_
  refine wp_seq ?_
  refine cnd rfl (fun hc0 => ?_) (fun hc0 => ?_)
  ·
    try simp only [decide_eq_true_eq, decide_eq_false_iff_not, Bool.not_eq_true', Bool.not_eq_false', Bool.and_eq_true, Bool.or_eq_true, Bool.or_eq_false_iff, Bool.cond_true_right, Bool.cond_false_right, Bool.cond_true_left, Bool.cond_false_left, ne_eq, Decidable.not_not, bne_iff_ne, beq_iff_eq, beq_eq_false_iff_ne, Bool.not_true, Bool.not_false] at hc0
    refine wp_skip ?_
    refine n_then ?_
    refine wp_seq ?_
    refine wp_block ?_
    refine wp_seq ?_
    refine rg ?_
    refine st (mvI rfl) ?_
    refine st (asI rfl) ?_
    refine rg_end ?_
    refine n_then ?_
    refine wp_seq ?_
    refine rg ?_
    refine st (mvI rfl) ?_
    refine st (mvS rfl) ?_
    refine st (mvI rfl) ?_
    refine st (y_ix hL sl22 rfl (rfl) rfl (by omega) (by omega)) ?_
    refine st (y_le hL na3 rfl (by omega) (by omega) rfl) ?_
    refine st (y_eql rfl rfl) ?_
    refine rg_end ?_
    refine n_then ?_
    refine cnd rfl (fun hc1 => ?_) (fun hc1 => ?_)
    ·
      try simp only [decide_eq_true_eq, decide_eq_false_iff_not, Bool.not_eq_true', Bool.not_eq_false', Bool.and_eq_true, Bool.or_eq_true, Bool.or_eq_false_iff, Bool.cond_true_right, Bool.cond_false_right, Bool.cond_true_left, Bool.cond_false_left, ne_eq, Decidable.not_not, bne_iff_ne, beq_iff_eq, beq_eq_false_iff_ne, Bool.not_true, Bool.not_false] at hc1
      have hin : x ∈ l := hc1.symm ▸ el_mem (by omega) (by omega)
      refine wp_seq ?_
      refine rg ?_
      refine st (mvI rfl) ?_
      refine st (asI rfl) ?_
      refine rg_end ?_
      refine n_then ?_
      refine wp_ret ?_
      refine r_blk (r_then (r_then (r_blk (r_then (ret1 (v := (.int .i64 _)) Try.results51 rfl ?_)))))
      exact ⟨(k : Int), rfl, .inl ⟨hin, by omega, by omega, hc1.symm⟩, hE⟩
    ·
      try simp only [decide_eq_true_eq, decide_eq_false_iff_not, Bool.not_eq_true', Bool.not_eq_false', Bool.and_eq_true, Bool.or_eq_true, Bool.or_eq_false_iff, Bool.cond_true_right, Bool.cond_false_right, Bool.cond_true_left, Bool.cond_false_left, ne_eq, Decidable.not_not, bne_iff_ne, beq_iff_eq, beq_eq_false_iff_ne, Bool.not_true, Bool.not_false] at hc1
      have hall1 : ∀ q : Nat, q < k + 1 → el l (q : Int) ≠ x := fun q hq => by
        by_cases e : q = k
        · subst e; exact fun h => hc1 h.symm
        · exact hall q (by omega)
      refine wp_skip ?_
      refine n_blk ?_
      refine n_then ?_
      refine rg ?_
      refine st (y_add rfl rfl (by omega)) ?_
      refine st (mvI rfl) ?_
      refine rg_end ?_
      exact n_then ⟨k + 1, _, rfl, same_lk rfl (same_h0), ⟨rfl, trivial⟩, ⟨hlp0, by omega, hall1⟩, by first | omega | (dsimp only; omega)⟩
  ·
    try simp only [decide_eq_true_eq, decide_eq_false_iff_not, Bool.not_eq_true', Bool.not_eq_false', Bool.and_eq_true, Bool.or_eq_true, Bool.or_eq_false_iff, Bool.cond_true_right, Bool.cond_false_right, Bool.cond_true_left, Bool.cond_false_left, ne_eq, Decidable.not_not, bne_iff_ne, beq_iff_eq, beq_eq_false_iff_ne, Bool.not_true, Bool.not_false] at hc0
    have hni : ¬ x ∈ l := fun h => by
      obtain ⟨i, hi, e⟩ := List.getElem_of_mem h
      exact hall i (by omega) (by simpa [el, hi] using e)
    refine wp_exit ?_
    refine e_then (e_then (e_blk (?_)))
    refine n_then ?_
    refine wp_seq ?_
    refine rg ?_
    refine st (asI rfl) ?_
    refine rg_end ?_
    refine n_then ?_
    refine wp_ret ?_
    refine ret1 (v := (.int .i64 _)) Try.results51 rfl ?_
    exact ⟨-1, rfl, .inr ⟨hni, rfl⟩, hE⟩

set_option maxRecDepth 100000 in
theorem slices_Contains_ok (l : List Int) (al : Option Addr) (cl ll hl : Nat) (x : Int) (w : World) (hL : Ints ll hl w al l) (hn : (l.length : Int) ≤ 9223372036854775807) : Cal Try.prog 42 [.slice al l.length cl, .int .i64 x] w (fun v w' => v = .bool (decide (x ∈ l)) ∧ Ext w w') := by
  replace hL := Ints.full hL
  have hE : Out 0 0 w w := Out.refl _ _ w
  refine enter Try.func42 rfl Try.ntmps42 rfl ?_
  refine wp_seq ?_
  refine rg ?_
  refine st (asB rfl) ?_
  refine rg_end ?_
  refine n_then ?_
  refine wp_seq ?_
  refine rg ?_
  refine st (mvS rfl) ?_
  refine st (mvI rfl) ?_
  refine sc cl51 (slices_Index_ok l _ _ _ _ x _ hL hn) rfl ?_
  rintro v5 w1 ⟨i, rfl, hi_, ho2⟩
  have hz6 := ho2.size
  replace hL := hL.ext ho2
  replace hE := hE.step ho2 (.inl (Nat.le_refl _))
  refine st (y_geq rfl rfl) ?_
  refine st (asB rfl) ?_
  refine rg_end ?_
  refine n_then ?_
  refine wp_ret ?_
  refine ret1 (v := (.bool _)) Try.results42 rfl ?_
  exact ⟨vb (by
    rcases hi_ with h | h
    · simp [h.1]; omega
    · simp [h.1]; omega), hE⟩

/-- For whom a train waits; its orbit; circles. -/
def gS (rows : List Pw) (at_ : List Int) (u : Int) : Int := if u < 0 then -1 else blocT rows at_ u
def itG (g : Int → Int) (t : Int) : Nat → Int
  | 0 => t
  | j + 1 => g (itG g t j)
def itL (g : Int → Int) (t : Int) (j : Nat) : List Int := (List.range j).map (itG g t)
structure Cyc (g : Int → Int) (t : Int) (j : Nat) : Prop where
  pos : 0 < j
  eq : itG g t j = t
  no : ∀ i, 0 < i → i < j → itG g t i ≠ t
section
variable {g : Int → Int} {t : Int}
theorem itL_len {j : Nat} : (itL g t j).length = j := by simp [itL]
theorem itL_S {j : Nat} : itL g t (j + 1) = itL g t j ++ [itG g t j] := by simp [itL, List.range_succ]
theorem itL_el {j i : Nat} (h : i < j) : el (itL g t j) (i : Int) = itG g t i := by simp [el, itL, h]
theorem itL_mem {j : Nat} {x : Int} : x ∈ itL g t j ↔ ∃ i, i < j ∧ itG g t i = x := by simp [itL]
theorem it_add (a : Nat) : ∀ b : Nat, itG g t (a + b) = itG g (itG g t a) b
  | 0 => rfl
  | b + 1 => by rw [← Nat.add_assoc]; show g _ = g _; rw [it_add a b]
theorem Cyc.uniq {i j : Nat} (h : Cyc g t i) (k : Cyc g t j) : i = j := by
  rcases Nat.lt_trichotomy i j with q | q | q
  · exact absurd h.eq (k.no i h.pos q)
  · exact q
  · exact absurd k.eq (h.no j k.pos q)
theorem it_stay (hg : g (-1) = -1) {j : Nat} (h : itG g t j = -1) (b : Nat) : itG g t (j + b) = -1 := by
  rw [it_add, h]
  induction b with
  | zero => rfl
  | succ b ih => show g _ = -1; rw [ih, hg]
theorem Cyc.nd {j : Nat} (h : Cyc g t j) {a b : Nat} (hab : a < b) (hb : b < j) : itG g t a ≠ itG g t b := fun e => by
  refine h.no (a + (j - b)) (by omega) (by omega) ?_
  rw [it_add, e, ← it_add, show b + (j - b) = j by omega, h.eq]
theorem nocyc_neg (hg : g (-1) = -1) (ht : t ≠ -1) {j : Nat} (h : itG g t j = -1) (hb : ∀ i, 0 < i → i < j → itG g t i ≠ t) (j' : Nat) : ¬ Cyc g t j' := fun c => by
  by_cases q : j' < j
  · exact hb j' c.pos q c.eq
  · have := it_stay hg h (j' - j)
    rw [show j + (j' - j) = j' by omega, c.eq] at this
    exact ht this
theorem nocyc_rep {i j : Nat} (hi : 0 < i) (hij : i < j) (h : itG g t i = itG g t j) (hb : ∀ k, 0 < k → k < j → itG g t k ≠ t) (j' : Nat) : ¬ Cyc g t j' := fun c => by
  have key : ∀ k : Nat, ∃ k', 0 < k' ∧ k' < j ∧ itG g t (k + 1) = itG g t k' := fun k => by
    induction k with
    | zero => exact ⟨1, by omega, by omega, rfl⟩
    | succ k ih =>
      obtain ⟨k', h1, h2, h3⟩ := ih
      by_cases q : k' + 1 < j
      · exact ⟨k' + 1, by omega, q, by show g _ = g _; rw [h3]⟩
      · refine ⟨i, hi, hij, ?_⟩
        rw [h, show j = k' + 1 by omega]
        show g _ = g _; rw [h3]
  obtain ⟨k', h1, h2, h3⟩ := key (j' - 1)
  rw [show j' - 1 + 1 = j' by have := c.pos; omega, c.eq] at h3
  exact hb k' h1 h2 h3.symm
theorem nodup_len : ∀ (k : Nat) (vs : List Int), vs.Nodup → (∀ x ∈ vs, 0 ≤ x ∧ x < k) → vs.length ≤ k
  | 0, vs, _, hr => by
    cases vs with
    | nil => simp
    | cons x r => have := hr x (List.mem_cons_self ..); omega
  | k + 1, vs, hn, hr => by
    by_cases hk : (k : Int) ∈ vs
    · have := nodup_len k (vs.erase k) (hn.erase _) (fun x hx => by
        obtain ⟨h1, h2⟩ := hn.mem_erase_iff.1 hx
        have := hr x h2
        omega)
      rw [List.length_erase_of_mem hk] at this
      omega
    · have := nodup_len k vs hn (fun x hx => by
        have h1 := hr x hx
        have : x ≠ k := by intro e; subst e; exact hk hx
        omega)
      omega
theorem it_le {n j : Nat} (hnd : ∀ a b, a < b → b < j → itG g t a ≠ itG g t b) (hr : ∀ a, a < j → 0 ≤ itG g t a ∧ itG g t a < n) : j ≤ n := by
  have h := nodup_len n (itL g t j) (by
    unfold itL
    rw [List.Nodup, List.pairwise_map]
    refine List.Pairwise.imp_of_mem ?_ (List.nodup_range (n := j))
    intro a b ha hb hne
    have h1 := List.mem_range.1 ha
    have h2 := List.mem_range.1 hb
    rcases Nat.lt_or_gt_of_ne hne with q | q
    · exact hnd a b q h2
    · exact fun e => hnd b a q h1 e.symm) (fun x hx => by
    obtain ⟨i, hi, rfl⟩ := itL_mem.1 hx
    exact hr i hi)
  rwa [itL_len] at h
end
theorem gS_neg {rows : List Pw} {at_ : List Int} : gS rows at_ (-1) = -1 := rfl
theorem bloc_rng {rows : List Pw} {at_ : List Int} (u : Int) : blocT rows at_ u = -1 ∨ (0 ≤ blocT rows at_ u ∧ blocT rows at_ u < rows.length) := by
  unfold blocT
  split
  · exact .inl rfl
  · exact blkT_rng rows.length
theorem gS_rng {rows : List Pw} {at_ : List Int} (u : Int) : gS rows at_ u = -1 ∨ (0 ≤ gS rows at_ u ∧ gS rows at_ u < rows.length) := by
  unfold gS
  split
  · exact .inl rfl
  · exact bloc_rng u
theorem it_rng {rows : List Pw} {at_ : List Int} {t : Nat} (ht : t < rows.length) : ∀ j : Nat, itG (gS rows at_) (t : Int) j = -1 ∨ (0 ≤ itG (gS rows at_) (t : Int) j ∧ itG (gS rows at_) (t : Int) j < rows.length)
  | 0 => .inr ⟨by show 0 ≤ (t : Int); omega, by show (t : Int) < _; omega⟩
  | j + 1 => gS_rng _
theorem blkT_sec {rows : List Pw} {at_ : List Int} {t : Int} : ∀ {k : Nat}, blkT rows at_ t k ≠ -1 → secT rows at_ (blkT rows at_ t k) = (el (el rows t).st (el at_ t + 1)).sec ∧ blkT rows at_ t k ≠ t
  | 0, h => absurd rfl h
  | k + 1, h => by
    rw [blkT] at h ⊢
    by_cases c : blkT rows at_ t k = -1 ∧ (k : Int) ≠ t ∧ secT rows at_ (k : Int) = (el (el rows t).st (el at_ t + 1)).sec
    · rw [if_pos c]; exact ⟨c.2.2, c.2.1⟩
    · rw [if_neg c] at h ⊢; exact blkT_sec h
/-- For whom one waits holds a section. -/
theorem bloc_in {rows : List Pw} {at_ : List Int} (hva : VaP rows) (hg : GoP rows at_) {u : Nat} (hu : u < rows.length) (h : blocT rows at_ (u : Int) ≠ -1) : el at_ (u : Int) + 1 < (el rows (u : Int)).st.length ∧ secT rows at_ (blocT rows at_ (u : Int)) = (el (el rows (u : Int)).st (el at_ (u : Int) + 1)).sec ∧ 0 ≤ el at_ (blocT rows at_ (u : Int)) ∧ el at_ (blocT rows at_ (u : Int)) < (el rows (blocT rows at_ (u : Int))).st.length := by
  unfold blocT at h ⊢
  by_cases c : (el rows (u : Int)).st.length ≤ el at_ (u : Int) + 1
  · rw [if_pos c] at h; exact absurd rfl h
  · rw [if_neg c] at h ⊢
    have h1 := (blkT_sec h).1
    have hn := nx_rng (A := at_) hva hu (hg.rng u hu).1 (by omega)
    refine ⟨by omega, h1, ?_⟩
    generalize blkT rows at_ (u : Int) rows.length = v at h1
    unfold secT at h1
    by_cases c2 : el at_ v < 0 ∨ (el rows v).st.length ≤ el at_ v
    · rw [if_pos c2] at h1; omega
    · omega
def KnR (rows : List Pw) (at_ : List Int) (l : List Int) : Prop := (∃ t j : Nat, t < rows.length ∧ Cyc (gS rows at_) (t : Int) j ∧ (∀ s : Nat, s < t → ∀ i, ¬ Cyc (gS rows at_) (s : Int) i) ∧ l = itL (gS rows at_) (t : Int) j) ∨ ((∀ s : Nat, s < rows.length → ∀ i, ¬ Cyc (gS rows at_) (s : Int) i) ∧ l = [])
theorem KnR.uniq {rows : List Pw} {at_ : List Int} {l m : List Int} (h : KnR rows at_ l) (k : KnR rows at_ m) : l = m := by
  rcases h with ⟨t, j, ht, hc, hb, rfl⟩ | ⟨hb, rfl⟩
  · rcases k with ⟨t', j', ht', hc', hb', rfl⟩ | ⟨hb', rfl⟩
    · rcases Nat.lt_trichotomy t t' with q | q | q
      · exact absurd hc (hb' t q j)
      · subst q; rw [hc.uniq hc']
      · exact absurd hc' (hb t' q j')
    · exact absurd hc (hb' t ht j)
  · rcases k with ⟨t', j', ht', hc', hb', rfl⟩ | ⟨hb', rfl⟩
    · exact absurd hc' (hb t' ht' j')
    · rfl
theorem Cyc.in {rows : List Pw} {at_ : List Int} {t j : Nat} (ht : t < rows.length) (h : Cyc (gS rows at_) (t : Int) j) (i : Nat) : 0 ≤ itG (gS rows at_) (t : Int) i ∧ itG (gS rows at_) (t : Int) i < rows.length := by
  rcases it_rng (at_ := at_) ht i with q | q
  · exfalso
    have h1 := it_stay (g := gS rows at_) gS_neg q (i * j - i)
    have h2 : ∀ m : Nat, itG (gS rows at_) (t : Int) (m * j) = (t : Int) := fun m => by
      induction m with
      | zero => rw [Nat.zero_mul]; rfl
      | succ m ih => rw [Nat.succ_mul, it_add, ih, h.eq]
    have hp := h.pos
    have h3 : i ≤ i * j := Nat.le_mul_of_pos_right i hp
    rw [show i + (i * j - i) = i * j by omega, h2 i] at h1
    omega
  · exact q
theorem Cyc.le {rows : List Pw} {at_ : List Int} {t j : Nat} (ht : t < rows.length) (h : Cyc (gS rows at_) (t : Int) j) : j ≤ rows.length := it_le (fun a b hab hb => h.nd hab hb) (fun a _ => h.in ht a)
theorem obstacleI_ok (rows : List Pw) (ap : Option Addr) (cp l_ h_ bst : Nat) (at_ H : List Int) (u : Int) (w : World) (hP : PIn l_ h_ w ap rows) (hbst : Blk w bst (stC (.slice ap rows.length cp) (pad at_) H)) (hva : VaP rows) (hlb : h_ ≤ bst) (hg : GoP rows at_) (hH : HOk rows (pad at_) H rows.length) (hnh : ¬ Hel rows at_) (h0 : 0 ≤ u) (h1 : u < rows.length) : Cal Try.prog 43 [.pointer (some ⟨bst, 0, none⟩), .int .i64 u] w (fun r w' => r = .int .i64 (gS rows at_ u) ∧ Ext w w') := by
  obtain ⟨t, rfl⟩ := Int.eq_ofNat_of_zero_le h0
  have hl := hg.len
  have hrl := hva.len
  have hpe : ∀ u : Nat, u < rows.length → el (pad at_) (u : Int) = el at_ (u : Int) := fun u hu => go_pad hg hu
  have h := dead_obstacle_ok rows ap cp l_ h_ bst (pad at_) H t w hP hbst hva hlb (pad_len (by omega)) hH.len (by omega) (by rw [hpe t (by omega)]; exact hg.rng t (by omega))
  have e : obsF rows (pad at_) H (t : Int) = gS rows at_ (t : Int) := by
    rw [obs_bloc hva hH (fun q => hnh (hel_congr hpe q)) (by omega) (by rw [hpe t (by omega)]; exact (hg.rng t (by omega)).1)]
    unfold gS
    rw [if_neg (by omega)]
    unfold blocT
    rw [hpe t (by omega), blkT_congr hpe (hpe t (by omega))]
  rw [e] at h; exact h
theorem blockerI_ok (rows : List Pw) (ap : Option Addr) (cp l_ h_ : Nat) (at_ : List Int) (aa : Option Addr) (ca la ha_ : Nat) (u : Int) (w : World) (hP : PIn l_ h_ w ap rows) (hpn : (rows.length : Int) ≤ 9223372036854775807) (hA : Ints la ha_ w aa at_) (hva : VaP rows) (hg : GoP rows at_) (h0 : 0 ≤ u) (h1 : u < rows.length) (hlt : el at_ u < (el rows u).st.length) : Cal Try.prog 46 [.slice ap rows.length cp, .slice aa at_.length ca, .int .i64 u] w (fun r w' => r = .int .i64 (gS rows at_ u) ∧ Ext w w') := by
  obtain ⟨t, rfl⟩ := Int.eq_ofNat_of_zero_le h0
  have h := ref35_blocker_ok rows ap cp l_ h_ at_ aa ca la ha_ t w hP hpn hA hg (by omega) hva hlt
  rw [show gS rows at_ (t : Int) = blocT rows at_ (t : Int) by unfold gS; rw [if_neg (by omega)]]; exact h

set_option maxHeartbeats 2000000 in
set_option maxRecDepth 100000 in
theorem dead_Knot_ok (rows : List Pw) (ap : Option Addr) (cp l_ h_ : Nat) (at_ : List Int) (aa : Option Addr) (ca la ha_ : Nat) (w : World) (hP : PIn l_ h_ w ap rows) (hpn : (rows.length : Int) ≤ 9223372036854775807) (hA : Ints la ha_ w aa at_) (hln : ∀ r ∈ rows, (r.st.length : Int) ≤ 9223372036854775807 ∧ ∀ s ∈ r.st, (s.pts.length : Int) ≤ 9223372036854775807) (han : (at_.length : Int) ≤ 9223372036854775807) : Cal Try.prog 25 [.slice ap rows.length cp, .slice aa at_.length ca] w (fun v w' => ∃ ad c l, v = .slice ad l.length c ∧ Ow 3 encI 1 w.heap.size w'.heap.size w' ad c l ∧ (∀ e, CkR rows at_ e → (e ≠ 0 → l = []) ∧ (e = 0 → KnR rows at_ l)) ∧ Ext w w') := by
  replace hP := hP.full
  replace hA := Ints.full hA
  have hE : Out 0 0 w w := Out.refl _ _ w
  refine enter Try.func25 rfl Try.ntmps25 rfl ?_
  refine wp_seq ?_
  refine rg ?_
  refine st (asS rfl) ?_
  refine rg_end ?_
  refine n_then ?_
  refine wp_seq ?_
  refine wp_seq ?_
  refine rg ?_
  refine st (mvS rfl) ?_
  refine st (mvS rfl) ?_
  refine sc cl31 (dead_Check_ok rows _ _ _ _ at_ _ _ _ _ _ hP hpn hA hln han) rfl ?_
  rintro v5 w1 ⟨e, rfl, hck, ho2⟩
  have hz6 := ho2.size
  replace hP := hP.ext ho2
  replace hA := hA.ext ho2
  replace hE := hE.step ho2 (.inl (Nat.le_refl _))
  refine st (y_neq rfl rfl) ?_
  refine rg_end ?_
  refine n_then ?_
  refine cnd rfl (fun hc0 => ?_) (fun hc0 => ?_)
  ·
    try simp only [decide_eq_true_eq, decide_eq_false_iff_not, Bool.not_eq_true', Bool.not_eq_false', Bool.and_eq_true, Bool.or_eq_true, Bool.or_eq_false_iff, Bool.cond_true_right, Bool.cond_false_right, Bool.cond_true_left, Bool.cond_false_left, ne_eq, Decidable.not_not, bne_iff_ne, beq_iff_eq, beq_eq_false_iff_ne, Bool.not_true, Bool.not_false] at hc0
    refine wp_seq ?_
    refine rg ?_
    refine st (asS rfl) ?_
    refine rg_end ?_
    refine n_then ?_
    refine wp_ret ?_
    refine r_then (ret1 (v := (.slice _ _ _)) Try.results25 rfl ?_)
    exact ⟨none, 0, [], rfl, Ow.nil (fun _ => rfl), fun e' he' => ⟨fun _ => rfl, fun q => absurd ((hck.uniq he').trans q) hc0⟩, hE⟩
  ·
    try simp only [decide_eq_true_eq, decide_eq_false_iff_not, Bool.not_eq_true', Bool.not_eq_false', Bool.and_eq_true, Bool.or_eq_true, Bool.or_eq_false_iff, Bool.cond_true_right, Bool.cond_false_right, Bool.cond_true_left, Bool.cond_false_left, ne_eq, Decidable.not_not, bne_iff_ne, beq_iff_eq, beq_eq_false_iff_ne, Bool.not_true, Bool.not_false] at hc0
    have hck0 := hck
    rw [hc0] at hck0
    obtain ⟨hva, hg, hnh⟩ := hck0.ok
    have hrl := hva.len
    have hl := hg.len
    refine wp_skip ?_
    refine n_then ?_
    refine wp_seq ?_
    refine rg ?_
    refine st (mvS rfl) ?_
    refine st (mvS rfl) ?_
    refine sc cl37 (dead_newState_ok rows _ _ _ _ at_ _ _ _ _ _ hP hpn hA hva hg) rfl ?_
    rintro v11 w7 ⟨bst, H, rfl, hbz, hbst, hHq, ho8⟩
    have hbl := hbst.lt
    have hz12 := ho8.size
    replace hP := hP.ext ho8
    replace hA := hA.ext ho8
    replace hE := hE.step ho8 (.inl (Nat.le_refl _))
    refine st (asP rfl) ?_
    refine rg_end ?_
    refine n_then ?_
    refine wp_seq ?_
    refine wp_seq ?_
    refine rg ?_
    refine st (mvS rfl) ?_
    refine st (y_len Try.underlying23 rfl) ?_
    refine st (mvI rfl) ?_
    refine rg_end ?_
    refine n_then ?_
    refine wp_block ?_
    obtain ⟨z0, hz0⟩ : ∃ z, z = w7.heap.size := ⟨_, rfl⟩
    refine lp (γ := Nat) [4, 6, 7, 8, 18, 19, 20, 21, 22, 23, 24, 25, 26, 27, 28, 29, 30, 31, 32, 33, 34, 35, 36, 37, 38, 39, 40, 41, 42, 43, 44, 45, 46, 47, 48] (fun t => [(18, .int .i64 (t : Int))]) (fun t w_ => Out z0 z0 w7 w_ ∧ (t : Int) ≤ rows.length ∧ ∀ s : Nat, s < t → ∀ i, ¬ Cyc (gS rows at_) (s : Int) i) (fun t => rows.length - t) 0 ⟨rfl, trivial⟩ ⟨Out.refl _ _ _, by omega, fun s hs => by omega⟩ ?_
    rintro t hav_ w13 ⟨ho14, ht_, hnc⟩
    have hlp0 := ho14
    have hz15 := ho14.size
    replace hP := hP.out ho14 (by first | omega | (simp only [blk_some, hi1_some] at *; omega))
    replace hA := hA.out ho14 (by first | omega | (simp only [blk_some, hi1_some] at *; omega))
    replace hE := hE.step ho14 (by first | omega | (simp only [blk_some, hi1_some] at *; omega))
    replace hbst := hbst.out ho14 (by first | omega | (simp only [blk_some, hi1_some] at *; omega))
    refine wp_seq ?_
    refine rg ?_
    refine st (y_lss rfl rfl) ?_
    refine rg_end ?_
    refine n_then ?_
    refine wp_seq ?_
    refine cnd rfl (fun hc1 => ?_) (fun hc1 => ?_)
    ·
      try simp only [decide_eq_true_eq, decide_eq_false_iff_not, Bool.not_eq_true', Bool.not_eq_false', Bool.and_eq_true, Bool.or_eq_true, Bool.or_eq_false_iff, Bool.cond_true_right, Bool.cond_false_right, Bool.cond_true_left, Bool.cond_false_left, ne_eq, Decidable.not_not, bne_iff_ne, beq_iff_eq, beq_eq_false_iff_ne, Bool.not_true, Bool.not_false] at hc1
      refine wp_skip ?_
      refine n_then ?_
      refine wp_seq ?_
      refine wp_block ?_
      refine wp_seq ?_
      refine rg ?_
      refine st (mvI rfl) ?_
      refine st (asI rfl) ?_
      refine rg_end ?_
      refine n_then ?_
      refine wp_seq ?_
      refine rg ?_
      refine st (asS rfl) ?_
      refine rg_end ?_
      refine n_then ?_
      refine wp_seq ?_
      refine wp_seq ?_
      refine rg ?_
      refine st (mvI rfl) ?_
      refine st (asI rfl) ?_
      refine rg_end ?_
      refine n_then ?_
      refine wp_block ?_
      have htl : t < rows.length := by omega
      obtain ⟨z1, hz1⟩ : ∃ z, z = w13.heap.size := ⟨_, rfl⟩
      refine lp (γ := Nat × Option Addr × Nat) [7, 8, 22, 23, 24, 25, 26, 27, 28, 29, 30, 31, 32, 33, 34, 35, 36] (fun ⟨j, ad, c⟩ => [(7, .slice ad (itL (gS rows at_) (t : Int) j).length c), (8, .int .i64 (itG (gS rows at_) (t : Int) j))]) (fun ⟨j, ad, c⟩ w_ => Out z1 z1 w13 w_ ∧ (∀ a b, a < b → b < j → itG (gS rows at_) (t : Int) a ≠ itG (gS rows at_) (t : Int) b) ∧ (∀ a, a < j → 0 ≤ itG (gS rows at_) (t : Int) a ∧ itG (gS rows at_) (t : Int) a < rows.length) ∧ j ≤ rows.length ∧ Ow 3 encI 1 z1 w_.heap.size w_ ad c (itL (gS rows at_) (t : Int) j)) (fun ⟨j, ad, c⟩ => rows.length - j) (0, none, 0) ⟨rfl, rfl, trivial⟩ ⟨Out.refl _ _ _, (fun a b _ hb => by omega), (fun a ha => by omega), by omega, Ow.nil (enc := encI) (sz := 1) (fun _ => rfl)⟩ ?_
      rintro ⟨j, ad, c⟩ hav_ w16 ⟨ho17, hnd, hrg, hjl, hm⟩
      have hlp1 := ho17
      have hz18 := ho17.size
      replace hP := hP.out ho17 (by first | omega | (simp only [blk_some, hi1_some] at *; omega))
      replace hA := hA.out ho17 (by first | omega | (simp only [blk_some, hi1_some] at *; omega))
      replace hE := hE.step ho17 (by first | omega | (simp only [blk_some, hi1_some] at *; omega))
      replace hbst := hbst.out ho17 (by first | omega | (simp only [blk_some, hi1_some] at *; omega))
      replace hlp0 := hlp0.step ho17 (by first | omega | (simp only [blk_some, hi1_some] at *; omega))
      have hur := it_rng (at_ := at_) htl j
      have hil0 : (itL (gS rows at_) (t : Int) j).length = j := itL_len
      refine wp_seq ?_
      refine wp_seq ?_
      refine rg ?_
      refine st (mvI rfl) ?_
      refine st (y_neq rfl rfl) ?_
      refine st (mvB rfl) ?_
      refine gspL 24 rfl (fun hg19 => ?_) (fun hg19 => ?_)
      ·
        have hg19n := hg19; try simp only [decide_eq_true_eq, decide_eq_false_iff_not, Bool.not_eq_true', Bool.not_eq_false', Bool.and_eq_true, Bool.or_eq_true, Bool.or_eq_false_iff, Bool.cond_true_right, Bool.cond_false_right, Bool.cond_true_left, Bool.cond_false_left, ne_eq, Decidable.not_not, bne_iff_ne, beq_iff_eq, beq_eq_false_iff_ne, Bool.not_true, Bool.not_false] at hg19n
        refine stg rfl rfl hg19 (mvS rfl) ?_
        refine stg rfl rfl hg19 (mvI rfl) ?_
        refine scg rfl rfl hg19 cl42 (slices_Contains_ok (itL (gS rows at_) (t : Int) j) _ _ _ _ (itG (gS rows at_) (t : Int) j) _ (Ow.sl hm) (by rw [itL_len]; omega)) rfl ?_
        rintro v24 w20 ⟨rfl, ho21⟩
        have hz25 := ho21.size
        replace hP := hP.ext ho21
        replace hA := hA.ext ho21
        replace hE := hE.step ho21 (.inl (Nat.le_refl _))
        replace hbst := hbst.ext ho21
        replace hlp0 := hlp0.step ho21 (.inl (Nat.le_refl _))
        replace hm := hm.ext ho21
        replace hlp1 := hlp1.step ho21 (.inl (Nat.le_refl _))
        refine stg rfl rfl hg19 (y_not rfl) ?_
        refine st (y_pickT rfl hg19 (v := .bool _) rfl) ?_
        refine rg_end ?_
        refine n_then ?_
        refine cnd rfl (fun hc2 => ?_) (fun hc2 => ?_)
        ·
          try simp only [decide_eq_true_eq, decide_eq_false_iff_not, Bool.not_eq_true', Bool.not_eq_false', Bool.and_eq_true, Bool.or_eq_true, Bool.or_eq_false_iff, Bool.cond_true_right, Bool.cond_false_right, Bool.cond_true_left, Bool.cond_false_left, ne_eq, Decidable.not_not, bne_iff_ne, beq_iff_eq, beq_eq_false_iff_ne, Bool.not_true, Bool.not_false] at hc2
          have hni : ¬ (itG (gS rows at_) (t : Int) j) ∈ (itL (gS rows at_) (t : Int) j) := by assumption
          have hu1 := hur.resolve_left (by assumption)
          have hrg1 : ∀ a, a < j + 1 → 0 ≤ itG (gS rows at_) (t : Int) a ∧ itG (gS rows at_) (t : Int) a < rows.length := fun a ha => by
            by_cases e : a = j
            · subst e; exact hu1
            · exact hrg a (by omega)
          have hnd1 : ∀ a b, a < b → b < j + 1 → itG (gS rows at_) (t : Int) a ≠ itG (gS rows at_) (t : Int) b := fun a b hab hb => by
            by_cases e : b = j
            · subst e; exact fun q => hni (itL_mem.2 ⟨a, hab, q⟩)
            · exact hnd a b hab (by omega)
          have hjn := it_le hnd1 hrg1
          refine wp_skip ?_
          refine n_then ?_
          refine wp_seq ?_
          refine wp_block ?_
          refine rg ?_
          refine st (mvS rfl) ?_
          refine st (mvI rfl) ?_
          refine sd (d_bs (bsl22_1 _ _) rfl ?_)
          intro bl29 w26 hbbl29 hs28 ho27 hbl29
          have hz30 := ho27.size
          replace hP := hP.ext ho27
          replace hA := hA.ext ho27
          replace hE := hE.step ho27 (.inl (Nat.le_refl _))
          replace hbst := hbst.ext ho27
          replace hlp0 := hlp0.step ho27 (.inl (Nat.le_refl _))
          replace hm := hm.ext ho27
          replace hlp1 := hlp1.step ho27 (.inl (Nat.le_refl _))
          have hrhm := hm.rng
          refine sd (d_app (xs := [(itG (gS rows at_) (t : Int) j)]) hm sl22 infoz3 (by decide) rfl rfl rfl rfl (hbl29) (fun _ => rfl) (by rw [itL_len]; simp; unfold maxLen; omega) (by rw [itL_len]; simp; omega) (by omega) (by omega) ?_)
          intro ad1 c1 w31 ho32 hm'
          have hs33 := ho32.size
          clear hm; have hm := hm'; clear hm'
          have hz36 := ho32.size
          replace hP := hP.out ho32 (by first | omega | (simp only [blk_some, hi1_some] at *; omega))
          replace hA := hA.out ho32 (by first | omega | (simp only [blk_some, hi1_some] at *; omega))
          replace hE := hE.step ho32 (by first | omega | (simp only [blk_some, hi1_some] at *; omega))
          replace hbst := hbst.out ho32 (by first | omega | (simp only [blk_some, hi1_some] at *; omega))
          replace hlp0 := hlp0.step ho32 (by first | omega | (simp only [blk_some, hi1_some] at *; omega))
          replace hlp1 := hlp1.step ho32 (by first | omega | (simp only [blk_some, hi1_some] at *; omega))
          rw [← itL_S] at hm
          refine st (asS rfl) ?_
          refine rg_end ?_
          refine n_blk ?_
          refine n_then ?_
          refine rg ?_
          refine st (mvP rfl) ?_
          refine st (mvI rfl) ?_
          refine sc cl43 (obstacleI_ok rows ap cp _ _ bst at_ H (itG (gS rows at_) (t : Int) j) _ hP hbst hva (by omega) hg hHq hnh hu1.1 hu1.2) rfl ?_
          rintro v41 w37 ⟨rfl, ho38⟩
          have hz42 := ho38.size
          replace hP := hP.ext ho38
          replace hA := hA.ext ho38
          replace hE := hE.step ho38 (.inl (Nat.le_refl _))
          replace hbst := hbst.ext ho38
          replace hlp0 := hlp0.step ho38 (.inl (Nat.le_refl _))
          replace hlp1 := hlp1.step ho38 (.inl (Nat.le_refl _))
          replace hm := hm.ext ho38
          refine st (asI rfl) ?_
          refine rg_end ?_
          exact n_then ⟨(j + 1, _, _), _, rfl, same_lk rfl (same_h0), ⟨slE (by rw [itL_S]), rfl, trivial⟩, ⟨hlp1, hnd1, hrg1, by omega, hm.wide (by omega)⟩, by first | omega | (dsimp only; omega)⟩
        ·
          try simp only [decide_eq_true_eq, decide_eq_false_iff_not, Bool.not_eq_true', Bool.not_eq_false', Bool.and_eq_true, Bool.or_eq_true, Bool.or_eq_false_iff, Bool.cond_true_right, Bool.cond_false_right, Bool.cond_true_left, Bool.cond_false_left, ne_eq, Decidable.not_not, bne_iff_ne, beq_iff_eq, beq_eq_false_iff_ne, Bool.not_true, Bool.not_false] at hc2
          have hst : (itG (gS rows at_) (t : Int) j) = -1 ∨ (itG (gS rows at_) (t : Int) j) ∈ (itL (gS rows at_) (t : Int) j) := by first | exact .inr (by assumption) | exact .inl (by assumption)
          have hj0 : j ≠ 0 := fun q => by
            subst q
            rcases hst with h | h
            · have : (t : Int) = -1 := h
              omega
            · obtain ⟨i, hi, _⟩ := itL_mem.1 h; omega
          have hbf : ∀ i, 0 < i → i < j → itG (gS rows at_) (t : Int) i ≠ (t : Int) := fun i h0 h1 q => hnd 0 i h0 h1 q.symm
          have hil : (itL (gS rows at_) (t : Int) j).length = j := itL_len
          have hlast : el (itL (gS rows at_) (t : Int) j) (((itL (gS rows at_) (t : Int) j).length : Int) - 1) = itG (gS rows at_) (t : Int) (j - 1) := by
            rw [hil, show ((j : Int) - 1) = ((j - 1 : Nat) : Int) by omega]; exact itL_el (by omega)
          have hll := hrg (j - 1) (by omega)
          have hgl : gS rows at_ (itG (gS rows at_) (t : Int) (j - 1)) = (itG (gS rows at_) (t : Int) j) := by
            show itG (gS rows at_) (t : Int) (j - 1 + 1) = _; rw [show j - 1 + 1 = j by omega]
          refine wp_exit ?_
          refine e_then (e_then (e_blk (?_)))
          refine n_then ?_
          refine wp_seq ?_
          refine rg ?_
          refine st (mvP rfl) ?_
          refine st (mvS rfl) ?_
          refine st (mvS rfl) ?_
          refine st (y_len Try.underlying22 rfl) ?_
          refine st (y_sub rfl rfl (by omega)) ?_
          refine st (y_ix hm.sl sl22 rfl (rfl) rfl (by omega) (by omega)) ?_
          refine st (y_le hm.sl na3 rfl (by omega) (by omega) rfl) ?_
          rw [hlast]
          refine sc cl43 (obstacleI_ok rows ap cp _ _ bst at_ H (itG (gS rows at_) (t : Int) (j - 1)) _ hP hbst hva (by omega) hg hHq hnh hll.1 hll.2) rfl ?_
          rintro v47 w43 ⟨rfl, ho44⟩
          rw [hgl]
          have hz48 := ho44.size
          replace hP := hP.ext ho44
          replace hA := hA.ext ho44
          replace hE := hE.step ho44 (.inl (Nat.le_refl _))
          replace hbst := hbst.ext ho44
          replace hlp0 := hlp0.step ho44 (.inl (Nat.le_refl _))
          replace hm := hm.ext ho44
          refine st (mvI rfl) ?_
          refine st (y_eql rfl rfl) ?_
          refine rg_end ?_
          refine n_then ?_
          refine cnd rfl (fun hc3 => ?_) (fun hc3 => ?_)
          ·
            try simp only [decide_eq_true_eq, decide_eq_false_iff_not, Bool.not_eq_true', Bool.not_eq_false', Bool.and_eq_true, Bool.or_eq_true, Bool.or_eq_false_iff, Bool.cond_true_right, Bool.cond_false_right, Bool.cond_true_left, Bool.cond_false_left, ne_eq, Decidable.not_not, bne_iff_ne, beq_iff_eq, beq_eq_false_iff_ne, Bool.not_true, Bool.not_false] at hc3
            have hcyc : Cyc (gS rows at_) (t : Int) j := ⟨by omega, hc3, hbf⟩
            refine wp_seq ?_
            refine rg ?_
            refine st (mvS rfl) ?_
            refine st (asS rfl) ?_
            refine rg_end ?_
            refine n_then ?_
            refine wp_ret ?_
            refine r_blk (r_then (r_then (r_blk (r_then (ret1 (v := (.slice _ _ _)) Try.results25 rfl ?_)))))
            exact ⟨ad, c, (itL (gS rows at_) (t : Int) j), rfl, (hm.lower (by omega)).wide (by omega), fun e' he' => ⟨fun q => absurd ((he'.uniq hck).trans hc0) q, fun _ => .inl ⟨t, j, by omega, hcyc, hnc, rfl⟩⟩, hE⟩
          ·
            try simp only [decide_eq_true_eq, decide_eq_false_iff_not, Bool.not_eq_true', Bool.not_eq_false', Bool.and_eq_true, Bool.or_eq_true, Bool.or_eq_false_iff, Bool.cond_true_right, Bool.cond_false_right, Bool.cond_true_left, Bool.cond_false_left, ne_eq, Decidable.not_not, bne_iff_ne, beq_iff_eq, beq_eq_false_iff_ne, Bool.not_true, Bool.not_false] at hc3
            have hno : ∀ i, ¬ Cyc (gS rows at_) (t : Int) i := by
              rcases hst with h | h
              · exact nocyc_neg gS_neg (by omega) h hbf
              · obtain ⟨i, hi, q⟩ := itL_mem.1 h
                refine nocyc_rep (Nat.pos_of_ne_zero (fun z => ?_)) hi q hbf
                subst z; exact hc3 q.symm
            have hnc1 : ∀ s : Nat, s < t + 1 → ∀ i, ¬ Cyc (gS rows at_) (s : Int) i := fun s hs => by
              by_cases e : s = t
              · subst e; exact hno
              · exact hnc s (by omega)
            refine wp_skip ?_
            refine n_blk ?_
            refine n_then ?_
            refine rg ?_
            refine st (y_add rfl rfl (by omega)) ?_
            refine st (mvI rfl) ?_
            refine rg_end ?_
            exact n_then ⟨t + 1, _, rfl, same_lk rfl (same_hav rfl (same_lk rfl (same_h0))), ⟨rfl, trivial⟩, ⟨hlp0, by omega, hnc1⟩, by first | omega | (dsimp only; omega)⟩
      ·
        have hg19n := hg19; try simp only [decide_eq_true_eq, decide_eq_false_iff_not, Bool.not_eq_true', Bool.not_eq_false', Bool.and_eq_true, Bool.or_eq_true, Bool.or_eq_false_iff, Bool.cond_true_right, Bool.cond_false_right, Bool.cond_true_left, Bool.cond_false_left, ne_eq, Decidable.not_not, bne_iff_ne, beq_iff_eq, beq_eq_false_iff_ne, Bool.not_true, Bool.not_false] at hg19n
        refine sts rfl rfl hg19 ?_
        refine sts rfl rfl hg19 ?_
        refine sts rfl rfl hg19 ?_
        refine sts rfl rfl hg19 ?_
        refine st (y_pickF rfl hg19 (v := .bool _) rfl) ?_
        refine rg_end ?_
        refine n_then ?_
        refine cnd rfl (fun hc2 => absurd hc2 (by decide)) (fun hc2 => ?_)
        have hst : (itG (gS rows at_) (t : Int) j) = -1 ∨ (itG (gS rows at_) (t : Int) j) ∈ (itL (gS rows at_) (t : Int) j) := by first | exact .inr (by assumption) | exact .inl (by assumption)
        have hj0 : j ≠ 0 := fun q => by
          subst q
          rcases hst with h | h
          · have : (t : Int) = -1 := h
            omega
          · obtain ⟨i, hi, _⟩ := itL_mem.1 h; omega
        have hbf : ∀ i, 0 < i → i < j → itG (gS rows at_) (t : Int) i ≠ (t : Int) := fun i h0 h1 q => hnd 0 i h0 h1 q.symm
        have hil : (itL (gS rows at_) (t : Int) j).length = j := itL_len
        have hlast : el (itL (gS rows at_) (t : Int) j) (((itL (gS rows at_) (t : Int) j).length : Int) - 1) = itG (gS rows at_) (t : Int) (j - 1) := by
          rw [hil, show ((j : Int) - 1) = ((j - 1 : Nat) : Int) by omega]; exact itL_el (by omega)
        have hll := hrg (j - 1) (by omega)
        have hgl : gS rows at_ (itG (gS rows at_) (t : Int) (j - 1)) = (itG (gS rows at_) (t : Int) j) := by
          show itG (gS rows at_) (t : Int) (j - 1 + 1) = _; rw [show j - 1 + 1 = j by omega]
        refine wp_exit ?_
        refine e_then (e_then (e_blk (?_)))
        refine n_then ?_
        refine wp_seq ?_
        refine rg ?_
        refine st (mvP rfl) ?_
        refine st (mvS rfl) ?_
        refine st (mvS rfl) ?_
        refine st (y_len Try.underlying22 rfl) ?_
        refine st (y_sub rfl rfl (by omega)) ?_
        refine st (y_ix hm.sl sl22 rfl (rfl) rfl (by omega) (by omega)) ?_
        refine st (y_le hm.sl na3 rfl (by omega) (by omega) rfl) ?_
        rw [hlast]
        refine sc cl43 (obstacleI_ok rows ap cp _ _ bst at_ H (itG (gS rows at_) (t : Int) (j - 1)) _ hP hbst hva (by omega) hg hHq hnh hll.1 hll.2) rfl ?_
        rintro v53 w49 ⟨rfl, ho50⟩
        rw [hgl]
        have hz54 := ho50.size
        replace hP := hP.ext ho50
        replace hA := hA.ext ho50
        replace hE := hE.step ho50 (.inl (Nat.le_refl _))
        replace hbst := hbst.ext ho50
        replace hlp0 := hlp0.step ho50 (.inl (Nat.le_refl _))
        replace hm := hm.ext ho50
        refine st (mvI rfl) ?_
        refine st (y_eql rfl rfl) ?_
        refine rg_end ?_
        refine n_then ?_
        refine cnd rfl (fun hc3 => ?_) (fun hc3 => ?_)
        ·
          try simp only [decide_eq_true_eq, decide_eq_false_iff_not, Bool.not_eq_true', Bool.not_eq_false', Bool.and_eq_true, Bool.or_eq_true, Bool.or_eq_false_iff, Bool.cond_true_right, Bool.cond_false_right, Bool.cond_true_left, Bool.cond_false_left, ne_eq, Decidable.not_not, bne_iff_ne, beq_iff_eq, beq_eq_false_iff_ne, Bool.not_true, Bool.not_false] at hc3
          have hcyc : Cyc (gS rows at_) (t : Int) j := ⟨by omega, hc3, hbf⟩
          refine wp_seq ?_
          refine rg ?_
          refine st (mvS rfl) ?_
          refine st (asS rfl) ?_
          refine rg_end ?_
          refine n_then ?_
          refine wp_ret ?_
          refine r_blk (r_then (r_then (r_blk (r_then (ret1 (v := (.slice _ _ _)) Try.results25 rfl ?_)))))
          exact ⟨ad, c, (itL (gS rows at_) (t : Int) j), rfl, (hm.lower (by omega)).wide (by omega), fun e' he' => ⟨fun q => absurd ((he'.uniq hck).trans hc0) q, fun _ => .inl ⟨t, j, by omega, hcyc, hnc, rfl⟩⟩, hE⟩
        ·
          try simp only [decide_eq_true_eq, decide_eq_false_iff_not, Bool.not_eq_true', Bool.not_eq_false', Bool.and_eq_true, Bool.or_eq_true, Bool.or_eq_false_iff, Bool.cond_true_right, Bool.cond_false_right, Bool.cond_true_left, Bool.cond_false_left, ne_eq, Decidable.not_not, bne_iff_ne, beq_iff_eq, beq_eq_false_iff_ne, Bool.not_true, Bool.not_false] at hc3
          have hno : ∀ i, ¬ Cyc (gS rows at_) (t : Int) i := by
            rcases hst with h | h
            · exact nocyc_neg gS_neg (by omega) h hbf
            · obtain ⟨i, hi, q⟩ := itL_mem.1 h
              refine nocyc_rep (Nat.pos_of_ne_zero (fun z => ?_)) hi q hbf
              subst z; exact hc3 q.symm
          have hnc1 : ∀ s : Nat, s < t + 1 → ∀ i, ¬ Cyc (gS rows at_) (s : Int) i := fun s hs => by
            by_cases e : s = t
            · subst e; exact hno
            · exact hnc s (by omega)
          refine wp_skip ?_
          refine n_blk ?_
          refine n_then ?_
          refine rg ?_
          refine st (y_add rfl rfl (by omega)) ?_
          refine st (mvI rfl) ?_
          refine rg_end ?_
          exact n_then ⟨t + 1, _, rfl, same_lk rfl (same_hav rfl (same_lk rfl (same_h0))), ⟨rfl, trivial⟩, ⟨hlp0, by omega, hnc1⟩, by first | omega | (dsimp only; omega)⟩
    ·
      try simp only [decide_eq_true_eq, decide_eq_false_iff_not, Bool.not_eq_true', Bool.not_eq_false', Bool.and_eq_true, Bool.or_eq_true, Bool.or_eq_false_iff, Bool.cond_true_right, Bool.cond_false_right, Bool.cond_true_left, Bool.cond_false_left, ne_eq, Decidable.not_not, bne_iff_ne, beq_iff_eq, beq_eq_false_iff_ne, Bool.not_true, Bool.not_false] at hc1
      refine wp_exit ?_
      refine e_then (e_then (e_blk (?_)))
      refine n_then ?_
      refine wp_seq ?_
      refine rg ?_
      refine st (asS rfl) ?_
      refine rg_end ?_
      refine n_then ?_
      refine wp_ret ?_
      refine ret1 (v := (.slice _ _ _)) Try.results25 rfl ?_
      exact ⟨none, 0, [], rfl, Ow.nil (fun _ => rfl), fun e' he' => ⟨fun _ => rfl, fun _ => .inr ⟨fun s hs => hnc s (by omega), rfl⟩⟩, hE⟩

theorem kn_no {rows : List Pw} {at_ : List Int} (hva : VaP rows) (hg : GoP rows at_) {t j : Nat} (ht : t < rows.length) (hb : ∀ i, 0 < i → i < j → itG (gS rows at_) (t : Int) i ≠ (t : Int)) (h : itG (gS rows at_) (t : Int) j < 0 ∨ ((0 ≤ itG (gS rows at_) (t : Int) j) ∧ ((el rows (itG (gS rows at_) (t : Int) j)).st.length ≤ el at_ (itG (gS rows at_) (t : Int) j))) ∨ rows.length < j) (i : Nat) : ¬ Cyc (gS rows at_) (t : Int) i := by
  rcases h with h | ⟨h0, h⟩ | h
  · exact nocyc_neg gS_neg (by omega) (j := j) (by rcases it_rng (at_ := at_) ht j with q | q <;> omega) hb i
  · cases j with
    | zero =>
      have h' : ((el rows (t : Int)).st.length : Int) ≤ el at_ (t : Int) := h
      refine nocyc_neg gS_neg (by omega) (j := 1) ?_ (fun i h0 h1 => by omega) i
      show gS rows at_ (t : Int) = -1
      unfold gS blocT
      rw [if_neg (by omega), if_pos (by omega)]
    | succ j =>
      exfalso
      rcases it_rng (at_ := at_) ht j with q | q
      · have : itG (gS rows at_) (t : Int) (j + 1) = -1 := by show gS rows at_ _ = -1; rw [q]; rfl
        omega
      · obtain ⟨u, hu⟩ := Int.eq_ofNat_of_zero_le q.1
        have e : itG (gS rows at_) (t : Int) (j + 1) = blocT rows at_ (u : Int) := by show gS rows at_ _ = _; rw [hu]; unfold gS; rw [if_neg (by omega)]
        rw [e] at h0 h
        have := bloc_in hva hg (u := u) (by omega) (by omega)
        omega
  · exact fun c => by
      by_cases q : i < j
      · exact hb i c.pos q c.eq
      · have := c.le ht; omega

set_option maxHeartbeats 2000000 in
set_option maxRecDepth 100000 in
theorem ref35_Knot_ok (rows : List Pw) (ap : Option Addr) (cp l_ h_ : Nat) (at_ : List Int) (aa : Option Addr) (ca la ha_ : Nat) (w : World) (hP : PIn l_ h_ w ap rows) (hpn : (rows.length : Int) ≤ 9223372036854775807) (hA : Ints la ha_ w aa at_) (hln : ∀ r ∈ rows, (r.st.length : Int) ≤ 9223372036854775807 ∧ ∀ s ∈ r.st, (s.pts.length : Int) ≤ 9223372036854775807) (han : (at_.length : Int) ≤ 9223372036854775807) : Cal Try.prog 32 [.slice ap rows.length cp, .slice aa at_.length ca] w (fun v w' => ∃ ad c l, v = .slice ad l.length c ∧ Ow 3 encI 1 w.heap.size w'.heap.size w' ad c l ∧ (∀ e, CkR rows at_ e → (e ≠ 0 → l = []) ∧ (e = 0 → KnR rows at_ l)) ∧ Ext w w') := by
  replace hP := hP.full
  replace hA := Ints.full hA
  have hE : Out 0 0 w w := Out.refl _ _ w
  refine enter Try.func32 rfl Try.ntmps32 rfl ?_
  refine wp_seq ?_
  refine rg ?_
  refine st (asS rfl) ?_
  refine rg_end ?_
  refine n_then ?_
  refine wp_seq ?_
  refine wp_seq ?_
  refine rg ?_
  refine st (mvS rfl) ?_
  refine st (mvS rfl) ?_
  refine sc cl15 (ref35_CheckState_ok rows _ _ _ _ at_ _ _ _ _ _ hP hpn hA hln han) rfl ?_
  rintro v5 w1 ⟨e, rfl, hck, ho2⟩
  have hz6 := ho2.size
  replace hP := hP.ext ho2
  replace hA := hA.ext ho2
  replace hE := hE.step ho2 (.inl (Nat.le_refl _))
  refine st (y_neq rfl rfl) ?_
  refine rg_end ?_
  refine n_then ?_
  refine cnd rfl (fun hc0 => ?_) (fun hc0 => ?_)
  ·
    try simp only [decide_eq_true_eq, decide_eq_false_iff_not, Bool.not_eq_true', Bool.not_eq_false', Bool.and_eq_true, Bool.or_eq_true, Bool.or_eq_false_iff, Bool.cond_true_right, Bool.cond_false_right, Bool.cond_true_left, Bool.cond_false_left, ne_eq, Decidable.not_not, bne_iff_ne, beq_iff_eq, beq_eq_false_iff_ne, Bool.not_true, Bool.not_false] at hc0
    refine wp_seq ?_
    refine rg ?_
    refine st (asS rfl) ?_
    refine rg_end ?_
    refine n_then ?_
    refine wp_ret ?_
    refine r_then (ret1 (v := (.slice _ _ _)) Try.results32 rfl ?_)
    exact ⟨none, 0, [], rfl, Ow.nil (fun _ => rfl), fun e' he' => ⟨fun _ => rfl, fun q => absurd ((hck.uniq he').trans q) hc0⟩, hE⟩
  ·
    try simp only [decide_eq_true_eq, decide_eq_false_iff_not, Bool.not_eq_true', Bool.not_eq_false', Bool.and_eq_true, Bool.or_eq_true, Bool.or_eq_false_iff, Bool.cond_true_right, Bool.cond_false_right, Bool.cond_true_left, Bool.cond_false_left, ne_eq, Decidable.not_not, bne_iff_ne, beq_iff_eq, beq_eq_false_iff_ne, Bool.not_true, Bool.not_false] at hc0
    have hck0 := hck
    rw [hc0] at hck0
    obtain ⟨hva, hg, hnh⟩ := hck0.ok
    have hrl := hva.len
    have hl := hg.len
    refine wp_skip ?_
    refine n_then ?_
    refine wp_seq ?_
    refine wp_seq ?_
    refine rg ?_
    refine st (mvS rfl) ?_
    refine st (y_len Try.underlying23 rfl) ?_
    refine st (mvI rfl) ?_
    refine rg_end ?_
    refine n_then ?_
    refine wp_block ?_
    obtain ⟨z0, hz0⟩ : ∃ z, z = w1.heap.size := ⟨_, rfl⟩
    refine lp (γ := Nat) [4, 5, 6, 7, 14, 15, 16, 17, 18, 19, 20, 21, 22, 23, 24, 25, 26, 27, 28, 29, 30, 31, 32, 33, 34, 35, 36, 37, 38, 39, 40, 41, 42, 43, 44, 45, 46, 47, 48, 49, 50, 51, 52, 53, 54, 55, 56] (fun t => [(14, .int .i64 (t : Int))]) (fun t w_ => Out z0 z0 w1 w_ ∧ (t : Int) ≤ rows.length ∧ ∀ s : Nat, s < t → ∀ i, ¬ Cyc (gS rows at_) (s : Int) i) (fun t => rows.length - t) 0 ⟨rfl, trivial⟩ ⟨Out.refl _ _ _, by omega, fun s hs => by omega⟩ ?_
    rintro t hav_ w7 ⟨ho8, ht_, hnc⟩
    have hlp0 := ho8
    have hz9 := ho8.size
    replace hP := hP.out ho8 (by first | omega | (simp only [blk_some, hi1_some] at *; omega))
    replace hA := hA.out ho8 (by first | omega | (simp only [blk_some, hi1_some] at *; omega))
    replace hE := hE.step ho8 (by first | omega | (simp only [blk_some, hi1_some] at *; omega))
    refine wp_seq ?_
    refine rg ?_
    refine st (y_lss rfl rfl) ?_
    refine rg_end ?_
    refine n_then ?_
    refine wp_seq ?_
    refine cnd rfl (fun hc1 => ?_) (fun hc1 => ?_)
    ·
      try simp only [decide_eq_true_eq, decide_eq_false_iff_not, Bool.not_eq_true', Bool.not_eq_false', Bool.and_eq_true, Bool.or_eq_true, Bool.or_eq_false_iff, Bool.cond_true_right, Bool.cond_false_right, Bool.cond_true_left, Bool.cond_false_left, ne_eq, Decidable.not_not, bne_iff_ne, beq_iff_eq, beq_eq_false_iff_ne, Bool.not_true, Bool.not_false] at hc1
      refine wp_skip ?_
      refine n_then ?_
      refine wp_seq ?_
      refine wp_block ?_
      refine wp_seq ?_
      refine rg ?_
      refine st (mvI rfl) ?_
      refine st (asI rfl) ?_
      refine rg_end ?_
      refine n_then ?_
      refine wp_seq ?_
      refine rg ?_
      refine st (asS rfl) ?_
      refine rg_end ?_
      refine n_then ?_
      refine wp_seq ?_
      refine rg ?_
      refine st (mvI rfl) ?_
      refine st (asI rfl) ?_
      refine rg_end ?_
      refine n_then ?_
      refine wp_block ?_
      have htl : t < rows.length := by omega
      obtain ⟨z1, hz1⟩ : ∃ z, z = w7.heap.size := ⟨_, rfl⟩
      refine lp (γ := Nat × Option Addr × Nat) [4, 6, 7, 18, 19, 20, 21, 22, 23, 24, 25, 26, 27, 28, 29, 30, 31, 32, 33, 34, 35, 36, 37, 38, 39, 40, 41, 42, 43, 44, 45, 46, 47, 48, 49, 50, 51, 52, 53, 54, 55] (fun ⟨j, ad, c⟩ => [(6, .slice ad (itL (gS rows at_) (t : Int) j).length c), (7, .int .i64 (itG (gS rows at_) (t : Int) j))]) (fun ⟨j, ad, c⟩ w_ => Out z1 z1 w7 w_ ∧ (∀ i, 0 < i → i < j → itG (gS rows at_) (t : Int) i ≠ (t : Int)) ∧ j ≤ rows.length + 1 ∧ Ow 3 encI 1 z1 w_.heap.size w_ ad c (itL (gS rows at_) (t : Int) j)) (fun ⟨j, ad, c⟩ => rows.length + 1 - j) (0, none, 0) ⟨rfl, rfl, trivial⟩ ⟨Out.refl _ _ _, (fun a _ ha => by omega), by omega, Ow.nil (enc := encI) (sz := 1) (fun _ => rfl)⟩ ?_
      rintro ⟨j, ad, c⟩ hav_ w10 ⟨ho11, hbf, hjl, hm⟩
      have hlp1 := ho11
      have hz12 := ho11.size
      replace hP := hP.out ho11 (by first | omega | (simp only [blk_some, hi1_some] at *; omega))
      replace hA := hA.out ho11 (by first | omega | (simp only [blk_some, hi1_some] at *; omega))
      replace hE := hE.step ho11 (by first | omega | (simp only [blk_some, hi1_some] at *; omega))
      replace hlp0 := hlp0.step ho11 (by first | omega | (simp only [blk_some, hi1_some] at *; omega))
      have hur := it_rng (at_ := at_) htl j
      have hil0 : (itL (gS rows at_) (t : Int) j).length = j := itL_len
      refine wp_seq ?_
      refine wp_seq ?_
      refine rgD 19 (fun w_ => Ext w10 w_) (fun i => false) mixed (by kernel_rfl) ?_
      intro w13 ho14 hs15
      refine ⟨ho14, ?_⟩
      have hx16 := ho14
      refine tn rfl (fun _ hG => mvI rfl) ?_
      refine tn rfl (fun _ hG => y_geq rfl rfl) ?_
      refine tn rfl (fun _ hG => mvB rfl) ?_
      refine gspT 20 rfl (fun hg17 => ?_) (fun hg17 => ?_)
      ·
        have hg17n := hg17; try simp only [decide_eq_true_eq, decide_eq_false_iff_not, Bool.not_eq_true', Bool.not_eq_false', Bool.and_eq_true, Bool.or_eq_true, Bool.or_eq_false_iff, Bool.cond_true_right, Bool.cond_false_right, Bool.cond_true_left, Bool.cond_false_left, ne_eq, Decidable.not_not, bne_iff_ne, beq_iff_eq, beq_eq_false_iff_ne, Bool.not_true, Bool.not_false] at hg17n
        refine tng rfl rfl rfl hg17 (fun _ hG => mvS rfl) ?_
        refine tng rfl rfl rfl hg17 (fun _ hG => mvI rfl) ?_
        refine tng rfl rfl rfl hg17 (fun _ hG => y_ix (hA.ext hG) sl22 rfl (rfl) rfl (by omega) (by omega)) ?_
        refine tng rfl rfl rfl hg17 (fun _ hG => y_le (hA.ext hG) na3 rfl (by omega) (by omega) rfl) ?_
        refine tng rfl rfl rfl hg17 (fun _ hG => mvS rfl) ?_
        refine tng rfl rfl rfl hg17 (fun _ hG => mvI rfl) ?_
        refine tng rfl rfl rfl hg17 (fun _ hG => y_ix (hP.tb.ext hG) sl23 rfl (rfl) rfl (by omega) (by omega)) ?_
        refine tng rfl rfl rfl hg17 (fun _ hG => y_le (hP.tb.ext hG) na35 rfl (by omega) (by omega) rfl) ?_
        refine tng rfl rfl rfl hg17 (fun _ hG => y_len Try.underlying35 rfl) ?_
        refine tng rfl rfl rfl hg17 (fun _ hG => y_lss rfl rfl) ?_
        refine tn rfl (fun _ hG => y_pickT rfl hg17 (v := .bool _) rfl) ?_
        refine tn rfl (fun _ hG => mvB rfl) ?_
        refine gspT 32 rfl (fun hg18 => ?_) (fun hg18 => ?_)
        ·
          have hg18n := hg18; try simp only [decide_eq_true_eq, decide_eq_false_iff_not, Bool.not_eq_true', Bool.not_eq_false', Bool.and_eq_true, Bool.or_eq_true, Bool.or_eq_false_iff, Bool.cond_true_right, Bool.cond_false_right, Bool.cond_true_left, Bool.cond_false_left, ne_eq, Decidable.not_not, bne_iff_ne, beq_iff_eq, beq_eq_false_iff_ne, Bool.not_true, Bool.not_false] at hg18n
          refine tng rfl rfl rfl hg18 (fun _ hG => mvS rfl) ?_
          refine tng rfl rfl rfl hg18 (fun _ hG => y_len Try.underlying22 rfl) ?_
          refine tng rfl rfl rfl hg18 (fun _ hG => mvS rfl) ?_
          refine tng rfl rfl rfl hg18 (fun _ hG => y_len Try.underlying23 rfl) ?_
          refine t_end ?_
          have hz19 := hx16.size
          replace hP := hP.ext hx16
          replace hA := hA.ext hx16
          replace hE := hE.step hx16 (.inl (Nat.le_refl _))
          replace hlp0 := hlp0.step hx16 (.inl (Nat.le_refl _))
          replace hm := hm.ext hx16
          replace hlp1 := hlp1.step hx16 (.inl (Nat.le_refl _))
          refine stg rfl rfl hg18 (y_leq rfl rfl) ?_
          refine st (y_pickT rfl hg18 (v := .bool _) rfl) ?_
          refine rg_end ?_
          refine n_then ?_
          refine cnd rfl (fun hc2 => ?_) (fun hc2 => ?_)
          ·
            try simp only [decide_eq_true_eq, decide_eq_false_iff_not, Bool.not_eq_true', Bool.not_eq_false', Bool.and_eq_true, Bool.or_eq_true, Bool.or_eq_false_iff, Bool.cond_true_right, Bool.cond_false_right, Bool.cond_true_left, Bool.cond_false_left, ne_eq, Decidable.not_not, bne_iff_ne, beq_iff_eq, beq_eq_false_iff_ne, Bool.not_true, Bool.not_false] at hc2
            have hu0 : 0 ≤ (itG (gS rows at_) (t : Int) j) := by omega
            have hu1 := hur.resolve_left (by omega)
            have hlt : el at_ (itG (gS rows at_) (t : Int) j) < (el rows (itG (gS rows at_) (t : Int) j)).st.length := by assumption
            have hjn : j ≤ rows.length := by omega
            refine wp_skip ?_
            refine n_then ?_
            refine wp_seq ?_
            refine wp_block ?_
            refine wp_seq ?_
            refine wp_seq ?_
            refine rg ?_
            refine st (mvS rfl) ?_
            refine st (y_len Try.underlying22 rfl) ?_
            refine st (y_gtr rfl rfl) ?_
            refine st (mvB rfl) ?_
            refine gspL 46 rfl (fun hg20 => ?_) (fun hg20 => ?_)
            ·
              have hg20n := hg20; try simp only [decide_eq_true_eq, decide_eq_false_iff_not, Bool.not_eq_true', Bool.not_eq_false', Bool.and_eq_true, Bool.or_eq_true, Bool.or_eq_false_iff, Bool.cond_true_right, Bool.cond_false_right, Bool.cond_true_left, Bool.cond_false_left, ne_eq, Decidable.not_not, bne_iff_ne, beq_iff_eq, beq_eq_false_iff_ne, Bool.not_true, Bool.not_false] at hg20n
              refine stg rfl rfl hg20 (mvI rfl) ?_
              refine stg rfl rfl hg20 (mvI rfl) ?_
              refine stg rfl rfl hg20 (y_eql rfl rfl) ?_
              refine st (y_pickT rfl hg20 (v := .bool _) rfl) ?_
              refine rg_end ?_
              refine n_then ?_
              refine cnd rfl (fun hc3 => ?_) (fun hc3 => ?_)
              ·
                try simp only [decide_eq_true_eq, decide_eq_false_iff_not, Bool.not_eq_true', Bool.not_eq_false', Bool.and_eq_true, Bool.or_eq_true, Bool.or_eq_false_iff, Bool.cond_true_right, Bool.cond_false_right, Bool.cond_true_left, Bool.cond_false_left, ne_eq, Decidable.not_not, bne_iff_ne, beq_iff_eq, beq_eq_false_iff_ne, Bool.not_true, Bool.not_false] at hc3
                have hcyc : Cyc (gS rows at_) (t : Int) j := ⟨by omega, by assumption, hbf⟩
                refine wp_seq ?_
                refine rg ?_
                refine st (mvS rfl) ?_
                refine st (asS rfl) ?_
                refine rg_end ?_
                refine n_then ?_
                refine wp_ret ?_
                refine r_then (r_blk (r_then (r_then (r_blk (r_blk (r_then (r_then (r_blk (r_then (ret1 (v := (.slice _ _ _)) Try.results32 rfl ?_))))))))))
                exact ⟨ad, c, (itL (gS rows at_) (t : Int) j), rfl, (hm.lower (by omega)).wide (by omega), fun e' he' => ⟨fun q => absurd ((he'.uniq hck).trans hc0) q, fun _ => .inl ⟨t, j, by omega, hcyc, hnc, rfl⟩⟩, hE⟩
              ·
                try simp only [decide_eq_true_eq, decide_eq_false_iff_not, Bool.not_eq_true', Bool.not_eq_false', Bool.and_eq_true, Bool.or_eq_true, Bool.or_eq_false_iff, Bool.cond_true_right, Bool.cond_false_right, Bool.cond_true_left, Bool.cond_false_left, ne_eq, Decidable.not_not, bne_iff_ne, beq_iff_eq, beq_eq_false_iff_ne, Bool.not_true, Bool.not_false] at hc3
                have hbf1 : ∀ i, 0 < i → i < j + 1 → itG (gS rows at_) (t : Int) i ≠ (t : Int) := fun i h0 h1 => by
                  by_cases e : i = j
                  · subst e; first | assumption | (intro; omega)
                  · exact hbf i h0 (by omega)
                refine wp_skip ?_
                refine n_then ?_
                refine rg ?_
                refine st (mvS rfl) ?_
                refine st (mvI rfl) ?_
                refine sd (d_bs (bsl22_1 _ _) rfl ?_)
                intro bl24 w21 hbbl24 hs23 ho22 hbl24
                have hz25 := ho22.size
                replace hP := hP.ext ho22
                replace hA := hA.ext ho22
                replace hE := hE.step ho22 (.inl (Nat.le_refl _))
                replace hlp0 := hlp0.step ho22 (.inl (Nat.le_refl _))
                replace hm := hm.ext ho22
                replace hlp1 := hlp1.step ho22 (.inl (Nat.le_refl _))
                have hrhm := hm.rng
                refine sd (d_app (xs := [(itG (gS rows at_) (t : Int) j)]) hm sl22 infoz3 (by decide) rfl rfl rfl rfl (hbl24) (fun _ => rfl) (by rw [itL_len]; simp; unfold maxLen; omega) (by rw [itL_len]; simp; omega) (by omega) (by omega) ?_)
                intro ad1 c1 w26 ho27 hm'
                have hs28 := ho27.size
                clear hm; have hm := hm'; clear hm'
                have hz31 := ho27.size
                replace hP := hP.out ho27 (by first | omega | (simp only [blk_some, hi1_some] at *; omega))
                replace hA := hA.out ho27 (by first | omega | (simp only [blk_some, hi1_some] at *; omega))
                replace hE := hE.step ho27 (by first | omega | (simp only [blk_some, hi1_some] at *; omega))
                replace hlp0 := hlp0.step ho27 (by first | omega | (simp only [blk_some, hi1_some] at *; omega))
                replace hlp1 := hlp1.step ho27 (by first | omega | (simp only [blk_some, hi1_some] at *; omega))
                rw [← itL_S] at hm
                refine st (asS rfl) ?_
                refine rg_end ?_
                refine n_blk ?_
                refine n_then ?_
                refine rg ?_
                refine st (mvS rfl) ?_
                refine st (mvS rfl) ?_
                refine st (mvI rfl) ?_
                refine sc cl46 (blockerI_ok rows _ _ _ _ at_ _ _ _ _ (itG (gS rows at_) (t : Int) j) _ hP hpn hA hva hg hu1.1 hu1.2 hlt) rfl ?_
                rintro v36 w32 ⟨rfl, ho33⟩
                have hz37 := ho33.size
                replace hP := hP.ext ho33
                replace hA := hA.ext ho33
                replace hE := hE.step ho33 (.inl (Nat.le_refl _))
                replace hlp0 := hlp0.step ho33 (.inl (Nat.le_refl _))
                replace hlp1 := hlp1.step ho33 (.inl (Nat.le_refl _))
                replace hm := hm.ext ho33
                refine st (asI rfl) ?_
                refine rg_end ?_
                exact n_then ⟨(j + 1, _, _), _, rfl, same_lk rfl (same_h0), ⟨slE (by rw [itL_S]), rfl, trivial⟩, ⟨hlp1, hbf1, by omega, hm.wide (by omega)⟩, by first | omega | (dsimp only; omega)⟩
            ·
              have hg20n := hg20; try simp only [decide_eq_true_eq, decide_eq_false_iff_not, Bool.not_eq_true', Bool.not_eq_false', Bool.and_eq_true, Bool.or_eq_true, Bool.or_eq_false_iff, Bool.cond_true_right, Bool.cond_false_right, Bool.cond_true_left, Bool.cond_false_left, ne_eq, Decidable.not_not, bne_iff_ne, beq_iff_eq, beq_eq_false_iff_ne, Bool.not_true, Bool.not_false] at hg20n
              refine sts rfl rfl hg20 ?_
              refine sts rfl rfl hg20 ?_
              refine sts rfl rfl hg20 ?_
              refine st (y_pickF rfl hg20 (v := .bool _) rfl) ?_
              refine rg_end ?_
              refine n_then ?_
              refine cnd rfl (fun hc3 => absurd hc3 (by decide)) (fun hc3 => ?_)
              have hbf1 : ∀ i, 0 < i → i < j + 1 → itG (gS rows at_) (t : Int) i ≠ (t : Int) := fun i h0 h1 => by
                by_cases e : i = j
                · subst e; first | assumption | (intro; omega)
                · exact hbf i h0 (by omega)
              refine wp_skip ?_
              refine n_then ?_
              refine rg ?_
              refine st (mvS rfl) ?_
              refine st (mvI rfl) ?_
              refine sd (d_bs (bsl22_1 _ _) rfl ?_)
              intro bl41 w38 hbbl41 hs40 ho39 hbl41
              have hz42 := ho39.size
              replace hP := hP.ext ho39
              replace hA := hA.ext ho39
              replace hE := hE.step ho39 (.inl (Nat.le_refl _))
              replace hlp0 := hlp0.step ho39 (.inl (Nat.le_refl _))
              replace hm := hm.ext ho39
              replace hlp1 := hlp1.step ho39 (.inl (Nat.le_refl _))
              have hrhm := hm.rng
              refine sd (d_app (xs := [(itG (gS rows at_) (t : Int) j)]) hm sl22 infoz3 (by decide) rfl rfl rfl rfl (hbl41) (fun _ => rfl) (by rw [itL_len]; simp; unfold maxLen; omega) (by rw [itL_len]; simp; omega) (by omega) (by omega) ?_)
              intro ad1 c1 w43 ho44 hm'
              have hs45 := ho44.size
              clear hm; have hm := hm'; clear hm'
              have hz48 := ho44.size
              replace hP := hP.out ho44 (by first | omega | (simp only [blk_some, hi1_some] at *; omega))
              replace hA := hA.out ho44 (by first | omega | (simp only [blk_some, hi1_some] at *; omega))
              replace hE := hE.step ho44 (by first | omega | (simp only [blk_some, hi1_some] at *; omega))
              replace hlp0 := hlp0.step ho44 (by first | omega | (simp only [blk_some, hi1_some] at *; omega))
              replace hlp1 := hlp1.step ho44 (by first | omega | (simp only [blk_some, hi1_some] at *; omega))
              rw [← itL_S] at hm
              refine st (asS rfl) ?_
              refine rg_end ?_
              refine n_blk ?_
              refine n_then ?_
              refine rg ?_
              refine st (mvS rfl) ?_
              refine st (mvS rfl) ?_
              refine st (mvI rfl) ?_
              refine sc cl46 (blockerI_ok rows _ _ _ _ at_ _ _ _ _ (itG (gS rows at_) (t : Int) j) _ hP hpn hA hva hg hu1.1 hu1.2 hlt) rfl ?_
              rintro v53 w49 ⟨rfl, ho50⟩
              have hz54 := ho50.size
              replace hP := hP.ext ho50
              replace hA := hA.ext ho50
              replace hE := hE.step ho50 (.inl (Nat.le_refl _))
              replace hlp0 := hlp0.step ho50 (.inl (Nat.le_refl _))
              replace hlp1 := hlp1.step ho50 (.inl (Nat.le_refl _))
              replace hm := hm.ext ho50
              refine st (asI rfl) ?_
              refine rg_end ?_
              exact n_then ⟨(j + 1, _, _), _, rfl, same_lk rfl (same_h0), ⟨slE (by rw [itL_S]), rfl, trivial⟩, ⟨hlp1, hbf1, by omega, hm.wide (by omega)⟩, by first | omega | (dsimp only; omega)⟩
          ·
            try simp only [decide_eq_true_eq, decide_eq_false_iff_not, Bool.not_eq_true', Bool.not_eq_false', Bool.and_eq_true, Bool.or_eq_true, Bool.or_eq_false_iff, Bool.cond_true_right, Bool.cond_false_right, Bool.cond_true_left, Bool.cond_false_left, ne_eq, Decidable.not_not, bne_iff_ne, beq_iff_eq, beq_eq_false_iff_ne, Bool.not_true, Bool.not_false] at hc2
            have hno : ∀ i, ¬ Cyc (gS rows at_) (t : Int) i := kn_no hva hg htl hbf (by omega)
            have hnc1 : ∀ s : Nat, s < t + 1 → ∀ i, ¬ Cyc (gS rows at_) (s : Int) i := fun s hs => by
              by_cases e : s = t
              · subst e; exact hno
              · exact hnc s (by omega)
            refine wp_exit ?_
            refine e_then (e_then (e_blk (?_)))
            refine n_blk ?_
            refine n_then ?_
            refine rg ?_
            refine st (y_add rfl rfl (by omega)) ?_
            refine st (mvI rfl) ?_
            refine rg_end ?_
            exact n_then ⟨t + 1, _, rfl, same_lk rfl (same_hav rfl (same_lk rfl (same_h0))), ⟨rfl, trivial⟩, ⟨hlp0, by omega, hnc1⟩, by first | omega | (dsimp only; omega)⟩
        ·
          have hg18n := hg18; try simp only [decide_eq_true_eq, decide_eq_false_iff_not, Bool.not_eq_true', Bool.not_eq_false', Bool.and_eq_true, Bool.or_eq_true, Bool.or_eq_false_iff, Bool.cond_true_right, Bool.cond_false_right, Bool.cond_true_left, Bool.cond_false_left, ne_eq, Decidable.not_not, bne_iff_ne, beq_iff_eq, beq_eq_false_iff_ne, Bool.not_true, Bool.not_false] at hg18n
          refine tns rfl rfl hg18 ?_
          refine tns rfl rfl hg18 ?_
          refine tns rfl rfl hg18 ?_
          refine tns rfl rfl hg18 ?_
          refine t_end ?_
          have hz55 := hx16.size
          replace hP := hP.ext hx16
          replace hA := hA.ext hx16
          replace hE := hE.step hx16 (.inl (Nat.le_refl _))
          replace hlp0 := hlp0.step hx16 (.inl (Nat.le_refl _))
          replace hm := hm.ext hx16
          replace hlp1 := hlp1.step hx16 (.inl (Nat.le_refl _))
          refine sts rfl rfl hg18 ?_
          refine st (y_pickF rfl hg18 (v := .bool _) rfl) ?_
          refine rg_end ?_
          refine n_then ?_
          refine cnd rfl (fun hc2 => absurd hc2 (by decide)) (fun hc2 => ?_)
          have hno : ∀ i, ¬ Cyc (gS rows at_) (t : Int) i := kn_no hva hg htl hbf (by omega)
          have hnc1 : ∀ s : Nat, s < t + 1 → ∀ i, ¬ Cyc (gS rows at_) (s : Int) i := fun s hs => by
            by_cases e : s = t
            · subst e; exact hno
            · exact hnc s (by omega)
          refine wp_exit ?_
          refine e_then (e_then (e_blk (?_)))
          refine n_blk ?_
          refine n_then ?_
          refine rg ?_
          refine st (y_add rfl rfl (by omega)) ?_
          refine st (mvI rfl) ?_
          refine rg_end ?_
          exact n_then ⟨t + 1, _, rfl, same_lk rfl (same_hav rfl (same_lk rfl (same_h0))), ⟨rfl, trivial⟩, ⟨hlp0, by omega, hnc1⟩, by first | omega | (dsimp only; omega)⟩
      ·
        have hg17n := hg17; try simp only [decide_eq_true_eq, decide_eq_false_iff_not, Bool.not_eq_true', Bool.not_eq_false', Bool.and_eq_true, Bool.or_eq_true, Bool.or_eq_false_iff, Bool.cond_true_right, Bool.cond_false_right, Bool.cond_true_left, Bool.cond_false_left, ne_eq, Decidable.not_not, bne_iff_ne, beq_iff_eq, beq_eq_false_iff_ne, Bool.not_true, Bool.not_false] at hg17n
        refine tns rfl rfl hg17 ?_
        refine tns rfl rfl hg17 ?_
        refine tns rfl rfl hg17 ?_
        refine tns rfl rfl hg17 ?_
        refine tns rfl rfl hg17 ?_
        refine tns rfl rfl hg17 ?_
        refine tns rfl rfl hg17 ?_
        refine tns rfl rfl hg17 ?_
        refine tns rfl rfl hg17 ?_
        refine tns rfl rfl hg17 ?_
        refine tn rfl (fun _ hG => y_pickF rfl hg17 (v := .bool _) rfl) ?_
        refine tn rfl (fun _ hG => mvB rfl) ?_
        refine tns rfl rfl rfl ?_
        refine tns rfl rfl rfl ?_
        refine tns rfl rfl rfl ?_
        refine tns rfl rfl rfl ?_
        refine t_end ?_
        have hz56 := hx16.size
        replace hP := hP.ext hx16
        replace hA := hA.ext hx16
        replace hE := hE.step hx16 (.inl (Nat.le_refl _))
        replace hlp0 := hlp0.step hx16 (.inl (Nat.le_refl _))
        replace hm := hm.ext hx16
        replace hlp1 := hlp1.step hx16 (.inl (Nat.le_refl _))
        refine sts rfl rfl rfl ?_
        refine st (y_pickF rfl rfl (v := .bool _) rfl) ?_
        refine rg_end ?_
        refine n_then ?_
        refine cnd rfl (fun hc2 => absurd hc2 (by decide)) (fun hc2 => ?_)
        have hno : ∀ i, ¬ Cyc (gS rows at_) (t : Int) i := kn_no hva hg htl hbf (by omega)
        have hnc1 : ∀ s : Nat, s < t + 1 → ∀ i, ¬ Cyc (gS rows at_) (s : Int) i := fun s hs => by
          by_cases e : s = t
          · subst e; exact hno
          · exact hnc s (by omega)
        refine wp_exit ?_
        refine e_then (e_then (e_blk (?_)))
        refine n_blk ?_
        refine n_then ?_
        refine rg ?_
        refine st (y_add rfl rfl (by omega)) ?_
        refine st (mvI rfl) ?_
        refine rg_end ?_
        exact n_then ⟨t + 1, _, rfl, same_lk rfl (same_hav rfl (same_lk rfl (same_h0))), ⟨rfl, trivial⟩, ⟨hlp0, by omega, hnc1⟩, by first | omega | (dsimp only; omega)⟩
    ·
      try simp only [decide_eq_true_eq, decide_eq_false_iff_not, Bool.not_eq_true', Bool.not_eq_false', Bool.and_eq_true, Bool.or_eq_true, Bool.or_eq_false_iff, Bool.cond_true_right, Bool.cond_false_right, Bool.cond_true_left, Bool.cond_false_left, ne_eq, Decidable.not_not, bne_iff_ne, beq_iff_eq, beq_eq_false_iff_ne, Bool.not_true, Bool.not_false] at hc1
      refine wp_exit ?_
      refine e_then (e_then (e_blk (?_)))
      refine n_then ?_
      refine wp_seq ?_
      refine rg ?_
      refine st (asS rfl) ?_
      refine rg_end ?_
      refine n_then ?_
      refine wp_ret ?_
      refine ret1 (v := (.slice _ _ _)) Try.results32 rfl ?_
      exact ⟨none, 0, [], rfl, Ow.nil (fun _ => rfl), fun e' he' => ⟨fun _ => rfl, fun _ => .inr ⟨fun s hs => hnc s (by omega), rfl⟩⟩, hE⟩
end Go.Proofs.Yteicgnmggkhlbaa
