/-
  Walks of the functions, printed by a program out of the code and the loops' relations.
-/
import Derived.Test.YtgekfafangcggaaWkD
import Derived.Test.YtgekfafangcggaaProg
import Derived.KernelRfl
import Derived.Test.YtgekfafangcggaaSx
import Derived.Test.YtgekfafangcggaaB1
import Derived.Test.YtgekfafangcggaaB3
namespace Go.Proofs.Ytgekfafangcggaa
open Go.Wk Go.RowKit
set_option linter.unusedVariables false
set_option linter.unusedSimpArgs false
theorem cl58 : Callable Try.prog 58 := ⟨Try.call58⟩
theorem sl83 : SliceOf Try.prog 83 3 1 := ⟨Try.underlying83, Try.sizeOf3⟩

theorem fillU {n k : Nat} {l : List Int} (hl : l.length = n) (hk : k < n) (h : ∀ p : Nat, p < k → el l p = p) : ∀ p : Nat, p < k + 1 → el (l.set (k : Int).toNat (k : Int)) p = p := by
  intro p hp
  by_cases e : p = k
  · subst e; exact elSetS (by omega) (by omega)
  · rw [elSetN (by omega) (by omega) (by omega)]; exact h p (by omega)
/-- The list's entries are the classes' names. -/
def RootOf (n : Nat) (l : List Int) (R : Int → Int) : Prop := l.length = n ∧ ∀ i : Int, 0 ≤ i → i < n → el l i = R i
theorem RootOf.start {n : Nat} {l : List Int} (hl : l.length = n) (h : ∀ p : Nat, p < n → el l p = p) : RootOf n l (fun x => x) := ⟨hl, fun i h0 h1 => by
  have := h i.toNat (by omega)
  rwa [Int.toNat_of_nonneg h0] at this⟩
/-- The first 'k' entries have got their new names. -/
def NameTo (n k : Nat) (l : List Int) (R : Int → Int) (a b : Int) : Prop := l.length = n ∧ ∀ i : Int, 0 ≤ i → i < n → el l i = if i < k then nameR R a b i else R i
theorem NameTo.start {n : Nat} {l : List Int} {R : Int → Int} {a b : Int} (h : RootOf n l R) : NameTo n 0 l R a b := ⟨h.1, fun i h0 h1 => by rw [if_neg (by omega)]; exact h.2 i h0 h1⟩
theorem NameTo.put {n k : Nat} {l : List Int} {R : Int → Int} {a b : Int} (h : NameTo n k l R a b) (hk : k < n) (he : el l (k : Int) = R b) : NameTo n (k + 1) (l.set (k : Int).toNat (R a)) R a b := by
  refine ⟨by simpa using h.1, fun i h0 h1 => ?_⟩
  have hl := h.1
  have hk' := h.2 k (by omega) (by omega)
  rw [if_neg (by omega)] at hk'
  by_cases e : i = k
  · subst e; rw [elSetS h0 (by omega), if_pos (by omega)]; unfold nameR; rw [if_pos (by rw [← hk']; exact he)]
  · rw [elSetN (by omega) h0 e, h.2 i h0 h1]
    by_cases q : i < k
    · rw [if_pos q, if_pos (by omega)]
    · rw [if_neg q, if_neg (by omega)]
theorem NameTo.skip {n k : Nat} {l : List Int} {R : Int → Int} {a b : Int} (h : NameTo n k l R a b) (hk : k < n) (he : ¬ el l (k : Int) = R b) : NameTo n (k + 1) l R a b := by
  refine ⟨h.1, fun i h0 h1 => ?_⟩
  have hk' := h.2 k (by omega) (by omega)
  rw [if_neg (by omega)] at hk'
  rw [h.2 i h0 h1]
  by_cases e : i = k
  · subst e; rw [if_neg (by omega), if_pos (by omega)]; unfold nameR; rw [if_neg (by rw [← hk']; exact he)]
  · by_cases q : i < k
    · rw [if_pos q, if_pos (by omega)]
    · rw [if_neg q, if_neg (by omega)]
theorem NameTo.done {n k : Nat} {l : List Int} {R : Int → Int} {a b : Int} (h : NameTo n k l R a b) (hk : ¬ (k : Int) < n) : RootOf n l (nameR R a b) := ⟨h.1, fun i h0 h1 => by rw [h.2 i h0 h1, if_pos (by omega)]⟩
theorem name_same {R : Int → Int} {a b : Int} (h : R a = R b) : nameR R a b = R := by
  funext x; unfold nameR; split
  · rename_i e; rw [e, h]
  · rfl
/-- The number that an event's component gets, found among the events before it. -/
def Among (K : Int → Int → Bool) (c : List Int) (i q : Nat) (x : Int) : Prop := (∀ j : Nat, j < q → K (j : Int) (i : Int) = true → x = el c j) ∧ ((∀ j : Nat, j < q → K (j : Int) (i : Int) = false) → x = -1)
theorem Among.start {K : Int → Int → Bool} {c : List Int} {i : Nat} : Among K c i 0 (-1) := ⟨fun j hj => by omega, fun _ => rfl⟩
theorem Among.skip {K : Int → Int → Bool} {c : List Int} {i q : Nat} {x : Int} (h : Among K c i q x) (hk : K (q : Int) (i : Int) = false) : Among K c i (q + 1) x := by
  refine ⟨fun j hj hK => ?_, fun ha => h.2 fun j hj => ha j (by omega)⟩
  by_cases e : j = q
  · subst e; rw [hk] at hK; cases hK
  · exact h.1 j (by omega) hK
/-- Events of one class have one number. -/
theorem comp_eq {n : Nat} {R : Int → Int} {K : Int → Int → Bool} {i : Nat} {c : List Int} (h : CompTo n K i c) (ht : Tells n R K) (hi : i < n) {j q : Nat} (hj : j < i) (hq : q < i) (h1 : K (j : Int) (i : Int) = true) (h2 : K (q : Int) (i : Int) = true) : el c j = el c q := by
  have e1 := (ht j i (by omega) (by omega) (by omega) (by omega)).1 h1
  have e2 := (ht q i (by omega) (by omega) (by omega) (by omega)).1 h2
  rcases Nat.lt_trichotomy j q with e | e | e
  · exact (h.again q j hq e ((ht j q (by omega) (by omega) (by omega) (by omega)).2 (e1.trans e2.symm))).symm
  · rw [e]
  · exact h.again j q hj e ((ht q j (by omega) (by omega) (by omega) (by omega)).2 (e2.trans e1.symm))
theorem Among.put {n : Nat} {R : Int → Int} {K : Int → Int → Bool} {c : List Int} {i q : Nat} {x : Int} (h : Among K c i q x) (hc : CompTo n K i c) (ht : Tells n R K) (hi : i < n) (hq : q < i) (hk : K (q : Int) (i : Int) = true) : Among K c i (q + 1) (el c q) := by
  refine ⟨fun j hj hK => ?_, fun ha => ?_⟩
  · exact comp_eq hc ht hi hq (by omega) hk hK
  · have := ha q (by omega); rw [hk] at this; cases this
theorem Among.neg {n : Nat} {K : Int → Int → Bool} {c : List Int} {i : Nat} {x : Int} (h : Among K c i i x) (hc : CompTo n K i c) : x < 0 ↔ fstB K i = true := by
  constructor
  · intro hx
    cases hf : fstB K i with
    | true => rfl
    | false =>
      obtain ⟨j, hj, hk⟩ := first_no hf
      have := h.1 j hj hk
      have := hc.lt j hj
      omega
  · intro hf
    have := h.2 (fun j hj => first_yes hf hj)
    omega
theorem comp_root {n : Nat} {P : List Int} {R : Int → Int} {K : Int → Int → Bool} {c : List Int} {k : Nat} (h : CompTo n K k c) (hu : UF n P R) (ht : Tells n R K) (hk : k < n) (hr : R (k : Int) < k) : CompTo n K (k + 1) (c.set (k : Int).toNat (el c (R (k : Int)))) := by
  have r0 := hu.rng k (by omega) (by omega)
  have e0 : (((R (k : Int)).toNat : Nat) : Int) = R (k : Int) := Int.toNat_of_nonneg r0.1
  have hK : K (((R (k : Int)).toNat : Nat) : Int) (k : Int) = true := by
    rw [e0]; exact (ht _ _ r0.1 (by omega) (by omega) (by omega)).2 (hu.idem k (by omega) (by omega))
  refine h.put hk (fun hf => ?_) (fun j hj hKj => ?_)
  · have := (hu.first ht hk).1 hf; omega
  · have := comp_eq h ht hk hj (q := (R (k : Int)).toNat) (by omega) hKj hK
    rw [e0] at this; exact this.symm
theorem comp_new {n : Nat} {P : List Int} {R : Int → Int} {K : Int → Int → Bool} {c : List Int} {k : Nat} (h : CompTo n K k c) (hu : UF n P R) (ht : Tells n R K) (hk : k < n) (hr : ¬ R (k : Int) < k) : fstB K k = true ∧ CompTo n K (k + 1) (c.set (k : Int).toNat (cntF K k : Nat)) := by
  have r0 := hu.rng k (by omega) (by omega)
  have hf := (hu.first ht hk).2 (by omega)
  exact ⟨hf, h.put hk (fun _ => rfl) (fun j hj hK => by rw [first_yes hf hj] at hK; cases hK)⟩

set_option maxRecDepth 100000 in
theorem cycles_newPartition_ok (n : Nat) (w : World) (hn : n ≤ 48) : Cal Try.prog 56 [.int .i64 (n : Int)] w (fun v w' => ∃ b P, v = .slice (some ⟨b, 0, none⟩) n n ∧ b = w.heap.size ∧ Ow 3 encI 1 w.heap.size (b + 1) w' (some ⟨b, 0, none⟩) n P ∧ UF n P (fun x => x) ∧ Ext w w') := by
  have hE : Out 0 0 w w := Out.refl _ _ w
  refine enter Try.func56 rfl Try.ntmps56 rfl ?_
  refine wp_seq ?_
  refine rg ?_
  refine st (asS rfl) ?_
  refine rg_end ?_
  refine n_then ?_
  refine wp_seq ?_
  refine rg ?_
  refine st (mvI rfl) ?_
  refine sd (d_make (m := n) (lo := w.heap.size) (enc := encI) (e0 := (0 : Int)) sl83 info3 (fun _ => rfl) rfl rfl rfl (by omega) (by unfold maxLen; omega) (by omega) ?_)
  intro b w1 hbb hs3 ho2 hP
  have hz5 := ho2.size
  replace hE := hE.step ho2 (.inl (Nat.le_refl _))
  refine st (asS rfl) ?_
  refine rg_end ?_
  refine n_then ?_
  refine wp_seq ?_
  refine wp_seq ?_
  refine rg ?_
  refine st (mvS rfl) ?_
  refine st (y_len Try.underlying83 rfl) ?_
  refine st (mvI rfl) ?_
  refine rg_end ?_
  refine n_then ?_
  refine wp_block ?_
  refine lp (γ := Nat × List Int) [4, 9, 10, 11, 12, 13, 14, 15, 16] (fun ⟨k, P⟩ => [(9, .int .i64 (k : Int))]) (fun ⟨k, P⟩ w_ => Out b (b + 1) w1 w_ ∧ k ≤ n ∧ P.length = n ∧ (∀ p : Nat, p < k → el P p = p) ∧ Ow 3 encI 1 w.heap.size (b + 1) w_ (some ⟨b, 0, none⟩) n P) (fun ⟨k, P⟩ => n - k) (0, List.replicate n 0) ⟨rfl, trivial⟩ ⟨Out.refl _ _ _, by omega, by simp, (fun p hp => by omega), hP⟩ ?_
  rintro ⟨k, P⟩ hav_ w6 ⟨ho7, hk, hPl, hfil, hP⟩
  have hlp0 := ho7
  have hz8 := ho7.size
  replace hE := hE.step ho7 (by first | omega | (simp only [blk_some, hi1_some] at *; omega))
  refine wp_seq ?_
  refine rg ?_
  refine st (y_lss rfl rfl) ?_
  refine rg_end ?_
  refine n_then ?_
  refine wp_seq ?_
  refine cnd rfl (fun hc0 => ?_) (fun hc0 => ?_)
  ·
    try simp only [decide_eq_true_eq, decide_eq_false_iff_not, Bool.not_eq_true', Bool.not_eq_false', Bool.and_eq_true, Bool.or_eq_true, Bool.or_eq_false_iff, Bool.cond_true_right, Bool.cond_false_right, Bool.cond_true_left, Bool.cond_false_left, ne_eq, Decidable.not_not, bne_iff_ne, beq_iff_eq, beq_eq_false_iff_ne, Bool.not_true, Bool.not_false] at hc0
    refine wp_skip ?_
    refine n_then ?_
    refine wp_seq ?_
    refine wp_block ?_
    refine wp_seq ?_
    refine rg ?_
    refine st (mvI rfl) ?_
    refine st (asI rfl) ?_
    refine rg_end ?_
    refine n_then ?_
    refine rg ?_
    refine st (mvS rfl) ?_
    refine st (mvI rfl) ?_
    refine st (mvI rfl) ?_
    refine st (y_ix hP.sl sl83 rfl (hPl.symm) rfl (by omega) (by omega)) ?_
    refine sd0 (d_se (j := 0)  hP sz3 rfl rfl rfl (by omega) (by omega) (Nat.le_of_ble_eq_true rfl) rfl ?_)
    intro w9 hs11 ho10 hP'
    have hrhP := hP.rng
    clear hP; have hP := hP'; clear hP'
    have hz12 := ho10.size
    replace hE := hE.step ho10 (by first | omega | (simp only [blk_some, hi1_some] at *; omega))
    replace hlp0 := hlp0.step ho10 (by first | omega | (simp only [blk_some, hi1_some] at *; omega))
    refine rg_end ?_
    refine n_blk ?_
    refine n_then ?_
    refine rg ?_
    refine st (y_add rfl rfl (by omega)) ?_
    refine st (mvI rfl) ?_
    refine rg_end ?_
    exact n_then ⟨(k + 1, _), _, rfl, same_lk rfl (same_h0), ⟨rfl, trivial⟩, ⟨hlp0, by omega, by simp [hPl], fillU hPl (by omega) hfil, hP⟩, by first | omega | (dsimp only; omega)⟩
  ·
    try simp only [decide_eq_true_eq, decide_eq_false_iff_not, Bool.not_eq_true', Bool.not_eq_false', Bool.and_eq_true, Bool.or_eq_true, Bool.or_eq_false_iff, Bool.cond_true_right, Bool.cond_false_right, Bool.cond_true_left, Bool.cond_false_left, ne_eq, Decidable.not_not, bne_iff_ne, beq_iff_eq, beq_eq_false_iff_ne, Bool.not_true, Bool.not_false] at hc0
    refine wp_exit ?_
    refine e_then (e_then (e_blk (?_)))
    refine n_then ?_
    refine wp_seq ?_
    refine rg ?_
    refine st (mvS rfl) ?_
    refine st (asS rfl) ?_
    refine rg_end ?_
    refine n_then ?_
    refine wp_ret ?_
    refine ret1 (v := (.slice _ _ _)) Try.results56 rfl ?_
    exact ⟨b, P, rfl, hbb, hP, UF.start hPl (fun p hp => hfil p (by omega)), hE⟩

set_option maxRecDepth 100000 in
theorem cycles_find_ok (n : Nat) (P : List Int) (R : Int → Int) (ap : Option Addr) (cp lo hi : Nat) (i : Int) (w : World) (hP : Ints lo hi w ap P) (hu : UF n P R) (i0 : 0 ≤ i) (i1 : i < n) : Cal Try.prog 58 [.slice ap n cp, .int .i64 i] w (fun v w' => v = .int .i64 (R i) ∧ Ext w w') := by
  have hPl := hu.len
  have hE : Out 0 0 w w := Out.refl _ _ w
  refine enter Try.func58 rfl Try.ntmps58 rfl ?_
  refine wp_seq ?_
  refine rg ?_
  refine st (asI rfl) ?_
  refine rg_end ?_
  refine n_then ?_
  refine wp_seq ?_
  refine wp_block ?_
  refine lp (γ := Int) [1, 5, 6, 7, 8, 9, 10, 11, 12, 13, 14] (fun c => [(1, .int .i64 c)]) (fun c w_ => Ext w w_ ∧ 0 ≤ c ∧ c < n ∧ R c = R i) (fun c => c.toNat) i ⟨rfl, trivial⟩ ⟨Out.refl _ _ _, i0, i1, rfl⟩ ?_
  rintro c hav_ w1 ⟨ho2, c0, c1, hc⟩
  have hlp0 := ho2
  have hz3 := ho2.size
  replace hP := hP.ext ho2
  replace hE := hE.step ho2 (.inl (Nat.le_refl _))
  refine wp_seq ?_
  refine wp_seq ?_
  refine rg ?_
  refine st (mvS rfl) ?_
  refine st (mvI rfl) ?_
  refine st (y_ix hP sl83 rfl (hPl.symm) rfl (by omega) (by omega)) ?_
  refine st (y_le hP na3 rfl (by omega) (by omega) rfl) ?_
  refine st (mvI rfl) ?_
  refine st (y_neq rfl rfl) ?_
  refine rg_end ?_
  refine n_then ?_
  refine cnd rfl (fun hc0 => ?_) (fun hc0 => ?_)
  ·
    try simp only [decide_eq_true_eq, decide_eq_false_iff_not, Bool.not_eq_true', Bool.not_eq_false', Bool.and_eq_true, Bool.or_eq_true, Bool.or_eq_false_iff, Bool.cond_true_right, Bool.cond_false_right, Bool.cond_true_left, Bool.cond_false_left, ne_eq, Decidable.not_not, bne_iff_ne, beq_iff_eq, beq_eq_false_iff_ne, Bool.not_true, Bool.not_false] at hc0
    have hlw := hu.low c c0 c1
    have hst := hu.step c c0 c1
    refine wp_skip ?_
    refine n_then ?_
    refine wp_block ?_
    refine rg ?_
    refine st (mvS rfl) ?_
    refine st (mvI rfl) ?_
    refine st (y_ix hP sl83 rfl (hPl.symm) rfl (by omega) (by omega)) ?_
    refine st (y_le hP na3 rfl (by omega) (by omega) rfl) ?_
    refine st (asI rfl) ?_
    refine rg_end ?_
    refine n_blk ?_
    exact n_then ⟨(el P c), _, rfl, same_lk rfl (same_h0), ⟨rfl, trivial⟩, ⟨hlp0, by omega, by omega, by omega⟩, by first | omega | (dsimp only; omega)⟩
  ·
    try simp only [decide_eq_true_eq, decide_eq_false_iff_not, Bool.not_eq_true', Bool.not_eq_false', Bool.and_eq_true, Bool.or_eq_true, Bool.or_eq_false_iff, Bool.cond_true_right, Bool.cond_false_right, Bool.cond_true_left, Bool.cond_false_left, ne_eq, Decidable.not_not, bne_iff_ne, beq_iff_eq, beq_eq_false_iff_ne, Bool.not_true, Bool.not_false] at hc0
    have hrt := hu.root c c0 c1 hc0
    refine wp_exit ?_
    refine e_then (e_then (e_blk (?_)))
    refine n_then ?_
    refine wp_seq ?_
    refine rg ?_
    refine st (mvI rfl) ?_
    refine st (asI rfl) ?_
    refine rg_end ?_
    refine n_then ?_
    refine wp_ret ?_
    refine ret1 (v := (.int .i64 _)) Try.results58 rfl ?_
    exact ⟨vi (by omega), hE⟩

set_option maxRecDepth 100000 in
theorem cycles_join_ok (n : Nat) (P : List Int) (R : Int → Int) (ap : Option Addr) (cp lo hi : Nat) (i j : Int) (w : World) (hP : Ow 3 encI 1 lo hi w ap cp P) (hu : UF n P R) (i0 : 0 ≤ i) (i1 : i < n) (j0 : 0 ≤ j) (j1 : j < n) : Cal Try.prog 57 [.slice ap n cp, .int .i64 i, .int .i64 j] w (fun v w' => v = .bool (decide (R i ≠ R j)) ∧ Ow 3 encI 1 lo hi w' ap cp (P.set (max (R i) (R j)).toNat (min (R i) (R j))) ∧ Out (blk ap) (hi1 ap) w w') := by
  have hPl := hu.len
  have ri := hu.rng i i0 i1
  have rj := hu.rng j j0 j1
  have hE : Out (blk ap) (hi1 ap) w w := Out.refl _ _ w
  refine enter Try.func57 rfl Try.ntmps57 rfl ?_
  refine wp_seq ?_
  refine rg ?_
  refine st (asB rfl) ?_
  refine rg_end ?_
  refine n_then ?_
  refine wp_seq ?_
  refine rg ?_
  refine st (mvS rfl) ?_
  refine st (mvI rfl) ?_
  refine sc cl58 (cycles_find_ok n P R _ _ _ _ _ _ (Ow.sl hP) hu (by omega) (by omega)) rfl ?_
  rintro v5 w1 ⟨rfl, ho2⟩
  have hz6 := ho2.size
  replace hP := hP.ext ho2
  replace hE := hE.step ho2 (.inl (Nat.le_refl _))
  refine st (mvS rfl) ?_
  refine st (mvI rfl) ?_
  refine sc cl58 (cycles_find_ok n P R _ _ _ _ _ _ (Ow.sl hP) hu (by omega) (by omega)) rfl ?_
  rintro v11 w7 ⟨rfl, ho8⟩
  have hz12 := ho8.size
  replace hP := hP.ext ho8
  replace hE := hE.step ho8 (.inl (Nat.le_refl _))
  refine st (asI rfl) ?_
  refine st (asI rfl) ?_
  refine rg_end ?_
  refine n_then ?_
  refine wp_seq ?_
  refine rg ?_
  refine st (mvS rfl) ?_
  refine st (mvI rfl) ?_
  refine st (mvI rfl) ?_
  refine st (y_max rfl rfl) ?_
  refine st (mvI rfl) ?_
  refine st (mvI rfl) ?_
  refine st (y_min rfl rfl) ?_
  refine st (y_ix hP.sl sl83 rfl (hPl.symm) rfl (by omega) (by omega)) ?_
  refine sd0 (d_se (j := 0) (e' := min (R i) (R j)) hP sz3 rfl rfl rfl (by omega) (by omega) (Nat.le_of_ble_eq_true rfl) rfl ?_)
  intro w13 hs15 ho14 hP'
  have hrhP := hP.rng
  clear hP; have hP := hP'; clear hP'
  have hz16 := ho14.size
  replace hE := hE.step ho14 (by first | omega | (simp only [blk_some, hi1_some] at *; omega))
  refine rg_end ?_
  refine n_then ?_
  refine wp_seq ?_
  refine rg ?_
  refine st (mvI rfl) ?_
  refine st (mvI rfl) ?_
  refine st (y_neq rfl rfl) ?_
  refine st (asB rfl) ?_
  refine rg_end ?_
  refine n_then ?_
  refine wp_ret ?_
  refine ret1 (v := (.bool _)) Try.results57 rfl ?_
  exact ⟨rfl, hP, hE⟩

set_option maxRecDepth 100000 in
theorem ref11_merge_ok (n : Nat) (l : List Int) (R : Int → Int) (ap : Option Addr) (cp lo hi : Nat) (a : Ac) (w : World) (hP : Ow 3 encI 1 lo hi w ap cp l) (hr : RootOf n l R) (hn : n ≤ 48) (f0 : 0 ≤ a.fr) (f1 : a.fr < n) (t0 : 0 ≤ a.tt) (t1 : a.tt < n) : Cal Try.prog 36 [.slice ap n cp, .agg (encAc a).toArray] w (fun v w' => ∃ l', v = .bool (decide (R a.fr ≠ R a.tt)) ∧ l'.length = l.length ∧ Ow 3 encI 1 lo hi w' ap cp l' ∧ RootOf n l' (nameR R a.fr a.tt) ∧ Out (blk ap) (hi1 ap) w w') := by
  have hll := hr.1
  have e1 := hr.2 _ f0 f1
  have e2 := hr.2 _ t0 t1
  have hrn0 := hP.rng
  have hE : Out (blk ap) (hi1 ap) w w := Out.refl _ _ w
  refine enter Try.func36 rfl Try.ntmps36 rfl ?_
  refine wp_seq ?_
  refine rg ?_
  refine sd (d_boxA rfl ?_)
  intro b3 w1 hbb3 hs3 ho2 hb3
  have hz4 := ho2.size
  replace hP := hP.ext ho2
  replace hE := hE.step ho2 (.inl (Nat.le_refl _))
  refine st (asB rfl) ?_
  refine rg_end ?_
  refine n_then ?_
  refine wp_seq ?_
  refine rgD 11 (fun w_ => Ext w1 w_) (fun i => false) mixed (by kernel_rfl) ?_
  intro w5 ho6 hs7
  refine ⟨ho6, ?_⟩
  have hx8 := ho6
  refine tn rfl (fun _ hG => mvS rfl) ?_
  refine tn rfl (fun _ hG => y_fld fld36_1 rfl) ?_
  refine tn rfl (fun _ hG => y_lb (hb3.ext hG) na3 rfl rfl) ?_
  refine tn rfl (fun _ hG => y_ix (hP.ext hG).sl sl22 rfl (hll.symm) rfl (by omega) (by omega)) ?_
  refine tn rfl (fun _ hG => y_le (hP.ext hG).sl na3 rfl (by omega) (by omega) rfl) ?_
  refine tn rfl (fun _ hG => mvS rfl) ?_
  refine tn rfl (fun _ hG => y_fld fld36_2 rfl) ?_
  refine tn rfl (fun _ hG => y_lb (hb3.ext hG) na3 rfl rfl) ?_
  refine tn rfl (fun _ hG => y_ix (hP.ext hG).sl sl22 rfl (hll.symm) rfl (by omega) (by omega)) ?_
  refine tn rfl (fun _ hG => y_le (hP.ext hG).sl na3 rfl (by omega) (by omega) rfl) ?_
  refine tn rfl (fun _ hG => asI rfl) ?_
  refine t_end ?_
  have hz9 := hx8.size
  replace hP := hP.ext hx8
  replace hE := hE.step hx8 (.inl (Nat.le_refl _))
  replace hb3 := hb3.ext hx8
  refine st (asI rfl) ?_
  refine rg_end ?_
  refine n_then ?_
  refine wp_seq ?_
  refine wp_seq ?_
  refine rg ?_
  refine st (mvI rfl) ?_
  refine st (mvI rfl) ?_
  refine st (y_eql rfl rfl) ?_
  refine rg_end ?_
  refine n_then ?_
  refine cnd rfl (fun hc0 => ?_) (fun hc0 => ?_)
  ·
    try simp only [decide_eq_true_eq, decide_eq_false_iff_not, Bool.not_eq_true', Bool.not_eq_false', Bool.and_eq_true, Bool.or_eq_true, Bool.or_eq_false_iff, Bool.cond_true_right, Bool.cond_false_right, Bool.cond_true_left, Bool.cond_false_left, ne_eq, Decidable.not_not, bne_iff_ne, beq_iff_eq, beq_eq_false_iff_ne, Bool.not_true, Bool.not_false] at hc0
    refine wp_seq ?_
    refine rg ?_
    refine st (asB rfl) ?_
    refine rg_end ?_
    refine n_then ?_
    refine wp_ret ?_
    refine r_then (ret1 (v := (.bool _)) Try.results36 rfl ?_)
    have hs : R a.fr = R a.tt := by rw [← e1, ← e2]; exact hc0
    exact ⟨l, vb (by simp [hs]), rfl, hP, by rw [name_same hs]; exact hr, hE⟩
  ·
    try simp only [decide_eq_true_eq, decide_eq_false_iff_not, Bool.not_eq_true', Bool.not_eq_false', Bool.and_eq_true, Bool.or_eq_true, Bool.or_eq_false_iff, Bool.cond_true_right, Bool.cond_false_right, Bool.cond_true_left, Bool.cond_false_left, ne_eq, Decidable.not_not, bne_iff_ne, beq_iff_eq, beq_eq_false_iff_ne, Bool.not_true, Bool.not_false] at hc0
    refine wp_skip ?_
    refine n_then ?_
    refine wp_seq ?_
    refine wp_seq ?_
    refine rg ?_
    refine st (mvS rfl) ?_
    refine st (y_len Try.underlying22 rfl) ?_
    refine st (mvI rfl) ?_
    refine rg_end ?_
    refine n_then ?_
    refine wp_block ?_
    refine lp (γ := Nat × List Int) [7, 23, 24, 25, 26, 27, 28, 29, 30, 31, 32, 33, 34, 35, 36] (fun ⟨k, l2⟩ => [(23, .int .i64 (k : Int))]) (fun ⟨k, l2⟩ w_ => Out (blk ap) (hi1 ap) w5 w_ ∧ (k : Int) ≤ n ∧ NameTo n k l2 R a.fr a.tt ∧ Ow 3 encI 1 lo hi w_ ap cp l2) (fun ⟨k, l2⟩ => n - k) (0, l) ⟨rfl, trivial⟩ ⟨Out.refl _ _ _, by simp, NameTo.start hr, hP⟩ ?_
    rintro ⟨k, l2⟩ hav_ w10 ⟨ho11, hk, hnm, hP⟩
    have hlp0 := ho11
    have hz12 := ho11.size
    replace hE := hE.step ho11 (by first | omega | (simp only [blk_some, hi1_some] at *; omega))
    replace hb3 := hb3.out ho11 (by first | omega | (simp only [blk_some, hi1_some] at *; omega))
    refine wp_seq ?_
    refine rg ?_
    refine st (y_lss rfl rfl) ?_
    refine rg_end ?_
    refine n_then ?_
    refine wp_seq ?_
    refine cnd rfl (fun hc1 => ?_) (fun hc1 => ?_)
    ·
      try simp only [decide_eq_true_eq, decide_eq_false_iff_not, Bool.not_eq_true', Bool.not_eq_false', Bool.and_eq_true, Bool.or_eq_true, Bool.or_eq_false_iff, Bool.cond_true_right, Bool.cond_false_right, Bool.cond_true_left, Bool.cond_false_left, ne_eq, Decidable.not_not, bne_iff_ne, beq_iff_eq, beq_eq_false_iff_ne, Bool.not_true, Bool.not_false] at hc1
      have hll2 := hnm.1
      refine wp_skip ?_
      refine n_then ?_
      refine wp_seq ?_
      refine wp_block ?_
      refine wp_seq ?_
      refine rg ?_
      refine st (mvI rfl) ?_
      refine st (asI rfl) ?_
      refine rg_end ?_
      refine n_then ?_
      refine wp_seq ?_
      refine rg ?_
      refine st (mvS rfl) ?_
      refine st (mvI rfl) ?_
      refine st (y_ix hP.sl sl22 rfl (hnm.1.symm) rfl (by omega) (by omega)) ?_
      refine st (y_le hP.sl na3 rfl (by omega) (by omega) rfl) ?_
      refine st (mvI rfl) ?_
      refine st (y_eql rfl rfl) ?_
      refine rg_end ?_
      refine n_then ?_
      refine cnd rfl (fun hc2 => ?_) (fun hc2 => ?_)
      ·
        try simp only [decide_eq_true_eq, decide_eq_false_iff_not, Bool.not_eq_true', Bool.not_eq_false', Bool.and_eq_true, Bool.or_eq_true, Bool.or_eq_false_iff, Bool.cond_true_right, Bool.cond_false_right, Bool.cond_true_left, Bool.cond_false_left, ne_eq, Decidable.not_not, bne_iff_ne, beq_iff_eq, beq_eq_false_iff_ne, Bool.not_true, Bool.not_false] at hc2
        have hnm1 := hnm.put (by omega) (hc2.trans e2)
        rw [← e1] at hnm1
        refine rg ?_
        refine st (mvS rfl) ?_
        refine st (mvI rfl) ?_
        refine st (mvI rfl) ?_
        refine st (y_ix hP.sl sl22 rfl (hnm.1.symm) rfl (by omega) (by omega)) ?_
        refine sd0 (d_se (j := 0) (e' := el l a.fr) hP sz3 rfl rfl rfl (by omega) (by omega) (Nat.le_of_ble_eq_true rfl) rfl ?_)
        intro w13 hs15 ho14 hP'
        have hrhP := hP.rng
        clear hP; have hP := hP'; clear hP'
        have hz16 := ho14.size
        replace hE := hE.step ho14 (by first | omega | (simp only [blk_some, hi1_some] at *; omega))
        replace hb3 := hb3.out ho14 (by first | omega | (simp only [blk_some, hi1_some] at *; omega))
        replace hlp0 := hlp0.step ho14 (by first | omega | (simp only [blk_some, hi1_some] at *; omega))
        refine rg_end ?_
        refine n_blk ?_
        refine n_then ?_
        refine rg ?_
        refine st (y_add rfl rfl (by omega)) ?_
        refine st (mvI rfl) ?_
        refine rg_end ?_
        exact n_then ⟨(k + 1, _), _, rfl, same_lk rfl (same_h0), ⟨rfl, trivial⟩, ⟨hlp0, by omega, hnm1, hP⟩, by first | omega | (dsimp only; omega)⟩
      ·
        try simp only [decide_eq_true_eq, decide_eq_false_iff_not, Bool.not_eq_true', Bool.not_eq_false', Bool.and_eq_true, Bool.or_eq_true, Bool.or_eq_false_iff, Bool.cond_true_right, Bool.cond_false_right, Bool.cond_true_left, Bool.cond_false_left, ne_eq, Decidable.not_not, bne_iff_ne, beq_iff_eq, beq_eq_false_iff_ne, Bool.not_true, Bool.not_false] at hc2
        have hnm1 := hnm.skip (by omega) (fun h => hc2 (h.trans e2.symm))
        refine wp_skip ?_
        refine n_blk ?_
        refine n_then ?_
        refine rg ?_
        refine st (y_add rfl rfl (by omega)) ?_
        refine st (mvI rfl) ?_
        refine rg_end ?_
        exact n_then ⟨(k + 1, _), _, rfl, same_lk rfl (same_h0), ⟨rfl, trivial⟩, ⟨hlp0, by omega, hnm1, hP⟩, by first | omega | (dsimp only; omega)⟩
    ·
      try simp only [decide_eq_true_eq, decide_eq_false_iff_not, Bool.not_eq_true', Bool.not_eq_false', Bool.and_eq_true, Bool.or_eq_true, Bool.or_eq_false_iff, Bool.cond_true_right, Bool.cond_false_right, Bool.cond_true_left, Bool.cond_false_left, ne_eq, Decidable.not_not, bne_iff_ne, beq_iff_eq, beq_eq_false_iff_ne, Bool.not_true, Bool.not_false] at hc1
      have hrr := hnm.done (by omega)
      refine wp_exit ?_
      refine e_then (e_then (e_blk (?_)))
      refine n_then ?_
      refine wp_seq ?_
      refine rg ?_
      refine st (asB rfl) ?_
      refine rg_end ?_
      refine n_then ?_
      refine wp_ret ?_
      refine ret1 (v := (.bool _)) Try.results36 rfl ?_
      exact ⟨l2, vb (by simp; rw [← e1, ← e2]; exact hc0), by rw [hnm.1, hll], hP, hrr, hE⟩
end Go.Proofs.Ytgekfafangcggaa
