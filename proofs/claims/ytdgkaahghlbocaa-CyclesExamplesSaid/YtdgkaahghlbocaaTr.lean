/-
  Forests: what a list of activities joins does not depend on its order, nor does that each of them joins something new.
-/
import Derived.Test.YtdgkaahghlbocaaCz
namespace Go.Wk
set_option linter.unusedVariables false
set_option linter.unusedSimpArgs false

structure EqK (K : Int → Int → Bool) : Prop where
  refl : ∀ x, K x x = true
  symm : ∀ x y, K x y = true → K y x = true
  trans : ∀ x y z, K x y = true → K y z = true → K x z = true
theorem join_iff {K : Int → Int → Bool} {a b x y : Int} : joinK K a b x y = true ↔ (K x y = true ∨ (K x a = true ∧ K y b = true)) ∨ (K x b = true ∧ K y a = true) := by
  unfold joinK; simp only [Bool.or_eq_true, Bool.and_eq_true]
theorem EqK.join {K : Int → Int → Bool} (h : EqK K) (a b : Int) : EqK (joinK K a b) := by
  refine ⟨fun x => join_iff.2 (.inl (.inl (h.refl x))), fun x y hxy => ?_, fun x y z hxy hyz => ?_⟩
  · rcases join_iff.1 hxy with (k | ⟨k, k'⟩) | ⟨k, k'⟩
    · exact join_iff.2 (.inl (.inl (h.symm _ _ k)))
    · exact join_iff.2 (.inr ⟨k', k⟩)
    · exact join_iff.2 (.inl (.inr ⟨k', k⟩))
  · rcases join_iff.1 hxy with (k | ⟨k, k'⟩) | ⟨k, k'⟩ <;> rcases join_iff.1 hyz with (q | ⟨q, q'⟩) | ⟨q, q'⟩
    · exact join_iff.2 (.inl (.inl (h.trans _ _ _ k q)))
    · exact join_iff.2 (.inl (.inr ⟨h.trans _ _ _ k q, q'⟩))
    · exact join_iff.2 (.inr ⟨h.trans _ _ _ k q, q'⟩)
    · exact join_iff.2 (.inl (.inr ⟨k, h.trans _ _ _ (h.symm _ _ q) k'⟩))
    · exact join_iff.2 (.inl (.inr ⟨k, q'⟩))
    · exact join_iff.2 (.inl (.inl (h.trans _ _ _ k (h.symm _ _ q'))))
    · exact join_iff.2 (.inr ⟨k, h.trans _ _ _ (h.symm _ _ q) k'⟩)
    · exact join_iff.2 (.inl (.inl (h.trans _ _ _ k (h.symm _ _ q'))))
    · exact join_iff.2 (.inr ⟨k, q'⟩)
theorem fold_eqk : ∀ (l : List Ac) (K : Int → Int → Bool), EqK K → EqK (l.foldl (fun K a => joinK K a.fr a.tt) K)
  | [], K, h => h
  | a :: l, K, h => fold_eqk l _ (h.join _ _)
theorem con_eqk (l : List Ac) : EqK (conB l) := fold_eqk l _ ⟨fun x => by simp, fun x y h => by simpa [eq_comm] using h, fun x y z h k => by simp at h k ⊢; omega⟩
theorem fold_ge : ∀ (l : List Ac) (K : Int → Int → Bool) (x y : Int), K x y = true → (l.foldl (fun K a => joinK K a.fr a.tt) K) x y = true
  | [], K, x, y, h => h
  | a :: l, K, x, y, h => fold_ge l _ x y (join_iff.2 (.inl (.inl h)))
theorem fold_mem : ∀ (l : List Ac) (K : Int → Int → Bool), EqK K → ∀ a ∈ l, (l.foldl (fun K a => joinK K a.fr a.tt) K) a.fr a.tt = true
  | [], K, h, a, ha => by cases ha
  | b :: l, K, h, a, ha => by
    rcases List.mem_cons.1 ha with e | ha
    · subst e
      exact fold_ge l _ _ _ (join_iff.2 (.inl (.inr ⟨h.refl _, h.refl _⟩)))
    · exact fold_mem l _ (h.join _ _) a ha
theorem con_mem {l : List Ac} {a : Ac} (h : a ∈ l) : conB l a.fr a.tt = true := fold_mem l _ ⟨fun x => by simp, fun x y h => by simpa [eq_comm] using h, fun x y z h k => by simp at h k ⊢; omega⟩ a h
theorem con_sub {l l' : List Ac} (h : ∀ a ∈ l, conB l' a.fr a.tt = true) {x y : Int} (hc : conB l x y = true) : conB l' x y = true := by
  have e := con_eqk l'
  have k := con_clo (S := fun z => conB l' x z) l (fun a ha => by
    have hm := h a ha
    show conB l' x a.fr = conB l' x a.tt
    rw [Bool.eq_iff_iff]
    exact ⟨fun q => e.trans _ _ _ q hm, fun q => e.trans _ _ _ q (e.symm _ _ hm)⟩) x y hc
  rw [← k]; exact e.refl x
theorem con_ext {l l' : List Ac} (h1 : ∀ a ∈ l, a ∈ l') (h2 : ∀ a ∈ l', a ∈ l) : conB l = conB l' := by
  funext x y
  rw [Bool.eq_iff_iff]
  exact ⟨fun h => con_sub (fun a ha => con_mem (h1 a ha)) h, fun h => con_sub (fun a ha => con_mem (h2 a ha)) h⟩

/-! ### Counting -/
theorem cnt_drop {K K' : Int → Int → Bool} {M : Nat} (hM : fstB K M = true) (h : ∀ i : Nat, fstB K' i = (fstB K i && !decide (i = M))) : ∀ n : Nat, cntF K' n + (if M < n then 1 else 0) = cntF K n
  | 0 => by simp [cntF]
  | n + 1 => by
    have ih := cnt_drop hM h n
    rw [cntF_succ, cntF_succ, h n]
    by_cases e : n = M
    · subst e
      rw [if_pos (show n < n + 1 by omega), if_pos hM, if_neg (by simp)]
      rw [if_neg (by omega)] at ih
      omega
    · rw [decide_eq_false e, Bool.not_false, Bool.and_true]
      by_cases q : M < n
      · rw [if_pos (show M < n + 1 by omega)]
        rw [if_pos q] at ih
        omega
      · rw [if_neg (show ¬ M < n + 1 by omega)]
        rw [if_neg q] at ih
        omega
theorem cnt_congr {K K' : Int → Int → Bool} {n : Nat} (h : ∀ i : Nat, i < n → fstB K' i = fstB K i) : ∀ m : Nat, m ≤ n → cntF K' m = cntF K m
  | 0, _ => by simp [cntF]
  | m + 1, hm => by rw [cntF_succ, cntF_succ, h m (by omega), cnt_congr h m (by omega)]
theorem cnt_drop' {K K' : Int → Int → Bool} {M n : Nat} (hM : fstB K M = true) (hMn : M < n) (h : ∀ i : Nat, i < n → fstB K' i = (fstB K i && !decide (i = M))) : ∀ m : Nat, m ≤ n → cntF K' m + (if M < m then 1 else 0) = cntF K m
  | 0, _ => by simp [cntF]
  | m + 1, hm => by
    have ih := cnt_drop' hM hMn h m (by omega)
    rw [cntF_succ, cntF_succ, h m (by omega)]
    by_cases e : m = M
    · subst e
      rw [if_pos (show m < m + 1 by omega), if_pos hM, if_neg (by simp)]
      rw [if_neg (by omega)] at ih
      omega
    · rw [decide_eq_false e, Bool.not_false, Bool.and_true]
      by_cases q : M < m
      · rw [if_pos (show M < m + 1 by omega)]
        rw [if_pos q] at ih
        omega
      · rw [if_neg (show ¬ M < m + 1 by omega)]
        rw [if_neg q] at ih
        omega
/-- How many of the first 'k' activities of a list join something new. -/
def newC (l : List Ac) : Nat → Nat
  | 0 => 0
  | k + 1 => newC l k + (if conB (l.take k) (el l (k : Int)).fr (el l (k : Int)).tt = false then 1 else 0)
theorem newC_le (l : List Ac) : ∀ k : Nat, newC l k ≤ k
  | 0 => Nat.le_refl _
  | k + 1 => by
    have := newC_le l k
    unfold newC; split <;> omega
theorem newC_all {l : List Ac} : ∀ {k : Nat}, newC l k = k → ∀ q : Nat, q < k → conB (l.take q) (el l (q : Int)).fr (el l (q : Int)).tt = false
  | 0, _, q, hq => by omega
  | k + 1, h, q, hq => by
    have hle := newC_le l k
    unfold newC at h
    by_cases e : conB (l.take k) (el l (k : Int)).fr (el l (k : Int)).tt = false
    · rw [if_pos e] at h
      by_cases e2 : q = k
      · subst e2; exact e
      · exact newC_all (k := k) (by omega) q (by omega)
    · rw [if_neg e] at h; omega
theorem newC_of {l : List Ac} : ∀ (k : Nat), (∀ q : Nat, q < k → conB (l.take q) (el l (q : Int)).fr (el l (q : Int)).tt = false) → newC l k = k
  | 0, _ => rfl
  | k + 1, h => by
    unfold newC; rw [if_pos (h k (by omega)), newC_of k (fun q hq => h q (by omega))]
structure AcIn (n : Nat) (a : Ac) : Prop where
  f0 : 0 ≤ a.fr
  f1 : a.fr < n
  t0 : 0 ≤ a.tt
  t1 : a.tt < n
theorem uf_ex {n : Nat} {l : List Ac} (h : ∀ a ∈ l, AcIn n a) : ∀ k : Nat, k ≤ l.length → ∃ P R, UF n P R ∧ Tells n R (conB (l.take k)) ∧ cntF (conB (l.take k)) n + newC l k = n
  | 0, _ => by
    have hel : ∀ p : Nat, p < n → el ((List.range n).map fun (q : Nat) => (q : Int)) (p : Int) = p := fun p hp => by simp [el, hp]
    refine ⟨(List.range n).map fun (q : Nat) => (q : Int), fun x => x, UF.start (by simp) hel, by simpa [conB] using Tells.start n, ?_⟩
    have hu := UF.start (n := n) (P := (List.range n).map fun (q : Nat) => (q : Int)) (by simp) hel
    have ht : Tells n (fun x => x) (conB (l.take 0)) := by simpa [conB] using Tells.start n
    have hall : ∀ m : Nat, m ≤ n → cntF (conB (l.take 0)) m = m := by
      intro m
      induction m with
      | zero => intro _; simp [cntF]
      | succ m ih => intro hm; rw [cntF_succ, ih (by omega), if_pos ((hu.first ht (by omega)).2 rfl)]
    rw [hall n (Nat.le_refl _)]; rfl
  | k + 1, hk => by
    obtain ⟨P, R, hu, ht, hc⟩ := uf_ex h k (by omega)
    have ha := h _ (el_mem (l := l) (i := (k : Int)) (by omega) (by omega))
    have hu1 := hu.join ha.f0 ha.f1 ha.t0 ha.t1
    have ht1 := ht.join ha.f0 ha.f1 ha.t0 ha.t1
    rw [← conB_snoc, ← tkS (l := l) (k := k) (by omega)] at ht1
    refine ⟨_, _, hu1, ht1, ?_⟩
    have ra := hu.rng _ ha.f0 ha.f1
    have rb := hu.rng _ ha.t0 ha.t1
    have ia := hu.idem _ ha.f0 ha.f1
    have ib := hu.idem _ ha.t0 ha.t1
    have hk' := ht _ _ ha.f0 ha.f1 ha.t0 ha.t1
    unfold newC
    by_cases e : conB (l.take k) (el l (k : Int)).fr (el l (k : Int)).tt = true
    · have hR := hk'.1 e
      have hcc : cntF (conB (l.take (k + 1))) n = cntF (conB (l.take k)) n := by
        refine cnt_congr (n := n) (fun i hi => ?_) n (Nat.le_refl _)
        rw [Bool.eq_iff_iff, hu1.first ht1 hi, hu.first ht hi]
        unfold joinR
        rw [hR]
        constructor
        · intro q; split at q <;> omega
        · intro q; split <;> omega
      rw [if_neg (by rw [e]; decide), Nat.add_zero, hcc]
      exact hc
    · have e' : conB (l.take k) (el l (k : Int)).fr (el l (k : Int)).tt = false := by simpa using e
      rw [if_pos e', ← Nat.add_assoc]
      have hne : R (el l (k : Int)).fr ≠ R (el l (k : Int)).tt := fun q => by rw [hk'.2 q] at e'; cases e'
      obtain ⟨M, hM⟩ : ∃ M : Nat, max (R (el l (k : Int)).fr) (R (el l (k : Int)).tt) = (M : Int) := Int.eq_ofNat_of_zero_le (by omega)
      have hMr : R (M : Int) = M := by
        rw [← hM]
        rcases Int.le_total (R (el l (k : Int)).fr) (R (el l (k : Int)).tt) with q | q
        · rw [Int.max_eq_right q]; exact ib
        · rw [Int.max_eq_left q]; exact ia
      have hmr : R (min (R (el l (k : Int)).fr) (R (el l (k : Int)).tt)) = min (R (el l (k : Int)).fr) (R (el l (k : Int)).tt) := by
        rcases Int.le_total (R (el l (k : Int)).fr) (R (el l (k : Int)).tt) with q | q
        · rw [Int.min_eq_left q]; exact ia
        · rw [Int.min_eq_right q]; exact ib
      have hf1 := ha.f1
      have ht1' := ha.t1
      have hMn : M < n := by omega
      have d := cnt_drop' (K := conB (l.take k)) (K' := conB (l.take (k + 1))) (M := M) (n := n) ((hu.first ht hMn).2 hMr) hMn (fun i hi => by
        rw [Bool.eq_iff_iff, hu1.first ht1 hi, Bool.and_eq_true, hu.first ht hi]
        simp only [Bool.not_eq_true', decide_eq_false_iff_not]
        unfold joinR
        rw [hM]
        constructor
        · intro q
          split at q
          · rename_i hy
            exfalso
            rw [← q, hmr] at hy
            omega
          · rename_i hn
            exact ⟨q, fun he => hn (by rw [he]; exact hMr)⟩
        · rintro ⟨q1, q2⟩
          rw [if_neg (by omega)]; exact q1) n (Nat.le_refl _)
      rw [if_pos hMn] at d
      omega
/-- That each activity of a list joins something new does not depend on its order. -/
theorem new_perm {n : Nat} {l l' : List Ac} (h : ∀ a ∈ l, AcIn n a) (h1 : ∀ a ∈ l, a ∈ l') (h2 : ∀ a ∈ l', a ∈ l) (hl : l.length = l'.length) (hn : ∀ q : Nat, q < l.length → conB (l.take q) (el l (q : Int)).fr (el l (q : Int)).tt = false) :
    ∀ q : Nat, q < l'.length → conB (l'.take q) (el l' (q : Int)).fr (el l' (q : Int)).tt = false := by
  obtain ⟨_, _, _, _, c1⟩ := uf_ex h l.length (Nat.le_refl _)
  obtain ⟨_, _, _, _, c2⟩ := uf_ex (fun a ha => h a (h2 a ha)) l'.length (Nat.le_refl _)
  rw [List.take_length] at c1 c2
  rw [con_ext h1 h2] at c1
  have e1 := newC_of l.length hn
  exact newC_all (by omega)
end Go.Wk
