/-
  Partitions of the events: union-find with least representatives, classes merged activity by activity, components in the order of their first events.
-/
import Derived.Test.YtclligkngjhihaaKeep
namespace Go.Wk
set_option linter.unusedVariables false
set_option linter.unusedSimpArgs false

section
variable {α : Type} [Inhabited α]
theorem elSetS {l : List α} {i : Int} {v : α} (h0 : 0 ≤ i) (h1 : i < l.length) : el (l.set i.toNat v) i = v := by
  have h : i.toNat < l.length := by omega
  simp [el, List.getD_eq_getElem?_getD, h]
theorem elSetN {l : List α} {i j : Int} {v : α} (h0 : 0 ≤ i) (hj : 0 ≤ j) (h : j ≠ i) : el (l.set i.toNat v) j = el l j := by
  have h : i.toNat ≠ j.toNat := by omega
  simp [el, List.getD_eq_getElem?_getD, List.getElem?_set_ne h]
theorem elRep {n : Nat} {v : α} {i : Int} (h0 : 0 ≤ i) (h1 : i < n) : el (List.replicate n v) i = v := by
  have h : i.toNat < n := by omega
  simp [el, List.getD_eq_getElem?_getD, h]
theorem extEl {a b : List α} (hl : a.length = b.length) (h : ∀ i : Int, 0 ≤ i → i < a.length → el a i = el b i) : a = b := by
  apply List.ext_getElem hl
  intro i h1 h2
  have := h i (by omega) (by omega)
  simpa [el, h1, h2] using this
theorem tkS {l : List α} {k : Nat} (hk : (k : Int) < l.length) : l.take (k + 1) = l.take k ++ [el l (k : Int)] := by
  have hk' : k < l.length := by omega
  have : el l (k : Int) = l[k] := by simp [el, hk']
  rw [List.take_succ_eq_append_getElem hk', this]
end
theorem tkE {α : Type} {l : List α} {k : Nat} (hk : ¬ (k : Int) < l.length) : l.take k = l := List.take_of_length_le (by omega)

structure UF (n : Nat) (P : List Int) (R : Int → Int) : Prop where
  len : P.length = n
  low : ∀ i : Int, 0 ≤ i → i < n → 0 ≤ el P i ∧ el P i ≤ i
  step : ∀ i : Int, 0 ≤ i → i < n → R (el P i) = R i
  root : ∀ i : Int, 0 ≤ i → i < n → el P i = i → R i = i
  rng : ∀ i : Int, 0 ≤ i → i < n → 0 ≤ R i ∧ R i ≤ i
  idem : ∀ i : Int, 0 ≤ i → i < n → R (R i) = R i

def joinR (R : Int → Int) (a b : Int) : Int → Int := fun x => if R x = max (R a) (R b) then min (R a) (R b) else R x

theorem UF.start {n : Nat} {P : List Int} (hl : P.length = n) (h : ∀ p : Nat, p < n → el P p = p) : UF n P (fun x => x) := by
  have h' : ∀ i : Int, 0 ≤ i → i < n → el P i = i := fun i h0 h1 => by
    have := h i.toNat (by omega)
    rwa [Int.toNat_of_nonneg h0] at this
  refine ⟨hl, fun i h0 h1 => ?_, fun i h0 h1 => ?_, fun i h0 h1 _ => rfl, fun i h0 h1 => ⟨h0, Int.le_refl _⟩, fun i h0 h1 => rfl⟩
  · rw [h' i h0 h1]; omega
  · exact h' i h0 h1

theorem UF.join {n : Nat} {P : List Int} {R : Int → Int} (h : UF n P R) {a b : Int} (a0 : 0 ≤ a) (a1 : a < n) (b0 : 0 ≤ b) (b1 : b < n) : UF n (P.set (max (R a) (R b)).toNat (min (R a) (R b))) (joinR R a b) := by
  have ra := h.rng a a0 a1
  have rb := h.rng b b0 b1
  have ia := h.idem a a0 a1
  have ib := h.idem b b0 b1
  have hl := h.len
  have hM : R (max (R a) (R b)) = max (R a) (R b) := by
    rcases Int.le_total (R a) (R b) with q | q
    · rw [Int.max_eq_right q]; exact ib
    · rw [Int.max_eq_left q]; exact ia
  have hm : R (min (R a) (R b)) = min (R a) (R b) := by
    rcases Int.le_total (R a) (R b) with q | q
    · rw [Int.min_eq_left q]; exact ia
    · rw [Int.min_eq_right q]; exact ib
  have hM0 : 0 ≤ max (R a) (R b) ∧ max (R a) (R b) < n := by omega
  have hm0 : 0 ≤ min (R a) (R b) ∧ min (R a) (R b) ≤ max (R a) (R b) := by omega
  generalize hMe : max (R a) (R b) = M at *
  generalize hme : min (R a) (R b) = m at *
  have hR : ∀ x, joinR R a b x = if R x = M then m else R x := fun x => by unfold joinR; rw [hMe, hme]
  have hRm : joinR R a b m = m := by rw [hR]; split <;> omega
  refine ⟨by simpa using hl, fun i h0 h1 => ?_, fun i h0 h1 => ?_, fun i h0 h1 he => ?_, fun i h0 h1 => ?_, fun i h0 h1 => ?_⟩
  · by_cases e : i = M
    · subst e; rw [elSetS h0 (by omega)]; omega
    · rw [elSetN hM0.1 h0 e]; exact h.low i h0 h1
  · by_cases e : i = M
    · subst e; rw [elSetS h0 (by omega), hRm, hR, if_pos hM]
    · rw [elSetN hM0.1 h0 e, hR, hR, h.step i h0 h1]
  · by_cases e : i = M
    · subst e; rw [elSetS h0 (by omega)] at he; rw [hR, if_pos hM]; exact he
    · rw [elSetN hM0.1 h0 e] at he
      have := h.root i h0 h1 he
      rw [hR, if_neg (by omega)]; exact this
  · have := h.rng i h0 h1
    rw [hR]; split <;> omega
  · rw [hR i]
    split
    · exact hRm
    · rename_i hne; rw [hR, h.idem i h0 h1, if_neg hne]

/-! ### Classes -/
def joinK (K : Int → Int → Bool) (a b : Int) : Int → Int → Bool := fun x y => K x y || (K x a && K y b) || (K x b && K y a)
def conB (l : List Ac) : Int → Int → Bool := l.foldl (fun K a => joinK K a.fr a.tt) (fun x y => decide (x = y))
theorem conB_snoc (l : List Ac) (a : Ac) : conB (l ++ [a]) = joinK (conB l) a.fr a.tt := by simp [conB, List.foldl_append]
/-- 'R' tells the classes of 'K' among the first 'n' numbers. -/
def Tells (n : Nat) (R : Int → Int) (K : Int → Int → Bool) : Prop := ∀ x y : Int, 0 ≤ x → x < n → 0 ≤ y → y < n → (K x y = true ↔ R x = R y)
theorem Tells.start (n : Nat) : Tells n (fun x => x) (fun x y => decide (x = y)) := fun x y _ _ _ _ => by simp
theorem Tells.join {n : Nat} {R : Int → Int} {K : Int → Int → Bool} (h : Tells n R K) {a b : Int} (a0 : 0 ≤ a) (a1 : a < n) (b0 : 0 ≤ b) (b1 : b < n) : Tells n (joinR R a b) (joinK K a b) := by
  intro x y x0 x1 y0 y1
  unfold joinK joinR
  simp only [Bool.or_eq_true, Bool.and_eq_true, h x y x0 x1 y0 y1, h x a x0 x1 a0 a1, h y b y0 y1 b0 b1, h x b x0 x1 b0 b1, h y a y0 y1 a0 a1]
  constructor
  · rintro ((h1 | ⟨h1, h2⟩) | ⟨h1, h2⟩)
    · rw [h1]
    · repeat' split
      all_goals omega
    · repeat' split
      all_goals omega
  · intro h1
    repeat' split at h1
    all_goals omega
/-- The same for the reference's way: one class gets the other's name. -/
def nameR (R : Int → Int) (a b : Int) : Int → Int := fun x => if R x = R b then R a else R x
theorem Tells.name {n : Nat} {R : Int → Int} {K : Int → Int → Bool} (h : Tells n R K) {a b : Int} (a0 : 0 ≤ a) (a1 : a < n) (b0 : 0 ≤ b) (b1 : b < n) : Tells n (nameR R a b) (joinK K a b) := by
  intro x y x0 x1 y0 y1
  unfold joinK nameR
  simp only [Bool.or_eq_true, Bool.and_eq_true, h x y x0 x1 y0 y1, h x a x0 x1 a0 a1, h y b y0 y1 b0 b1, h x b x0 x1 b0 b1, h y a y0 y1 a0 a1]
  constructor
  · rintro ((h1 | ⟨h1, h2⟩) | ⟨h1, h2⟩)
    · rw [h1]
    · repeat' split
      all_goals omega
    · repeat' split
      all_goals omega
  · intro h1
    repeat' split at h1
    all_goals omega

def fstB (K : Int → Int → Bool) (i : Nat) : Bool := (List.range i).all fun (k : Nat) => !K (k : Int) (i : Int)
def cntF (K : Int → Int → Bool) (i : Nat) : Nat := (List.range i).countP (fstB K)
theorem cntF_succ (K : Int → Int → Bool) (i : Nat) : cntF K (i + 1) = cntF K i + (if fstB K i = true then 1 else 0) := by
  unfold cntF; rw [List.range_succ, List.countP_append, List.countP_singleton]
theorem cntF_mono {K : Int → Int → Bool} {i j : Nat} (h : i ≤ j) : cntF K i ≤ cntF K j := by
  induction h with
  | refl => exact Nat.le_refl _
  | step _ ih => rw [cntF_succ]; omega
theorem cntF_le (K : Int → Int → Bool) (i : Nat) : cntF K i ≤ i := Nat.le_trans List.countP_le_length (by simp)
theorem first_no {K : Int → Int → Bool} {i : Nat} (h : fstB K i = false) : ∃ k : Nat, k < i ∧ K (k : Int) (i : Int) = true := by
  rw [fstB, ← Bool.not_eq_true, List.all_eq_true] at h
  apply Classical.byContradiction
  intro hne
  apply h
  intro k hk
  cases hc : K (k : Int) (i : Int) with
  | false => rfl
  | true => exact absurd ⟨k, List.mem_range.1 hk, hc⟩ hne
theorem first_yes {K : Int → Int → Bool} {i : Nat} (h : fstB K i = true) {k : Nat} (hk : k < i) : K (k : Int) (i : Int) = false := by
  have := List.all_eq_true.1 h k (List.mem_range.2 hk)
  simpa using this

/-- The numbers of the components of the first 'k' events. -/
structure CompTo (n : Nat) (K : Int → Int → Bool) (k : Nat) (c : List Int) : Prop where
  len : c.length = n
  first : ∀ i : Nat, i < k → fstB K i = true → el c i = cntF K i
  again : ∀ i j : Nat, i < k → j < i → K (j : Int) (i : Int) = true → el c i = el c j

theorem CompTo.lt {n : Nat} {K : Int → Int → Bool} {k : Nat} {c : List Int} (h : CompTo n K k c) : ∀ i : Nat, i < k → 0 ≤ el c i ∧ el c i < cntF K (i + 1) := by
  intro i
  induction i using Nat.strongRecOn with
  | _ i ih =>
    intro hi
    cases hf : fstB K i with
    | true => rw [h.first i hi hf, cntF_succ, if_pos hf]; omega
    | false =>
      obtain ⟨j, hj, hk⟩ := first_no hf
      rw [h.again i j hi hj hk]
      have := ih j hj (by omega)
      have := cntF_mono (K := K) (i := j + 1) (j := i + 1) (by omega)
      omega
theorem CompTo.isFirst {n : Nat} {K : Int → Int → Bool} {k : Nat} {c : List Int} (h : CompTo n K k c) {i : Nat} (hi : i < k) : el c i = cntF K i ↔ fstB K i = true := by
  constructor
  · intro he
    cases hf : fstB K i with
    | true => rfl
    | false =>
      obtain ⟨j, hj, hk⟩ := first_no hf
      have := h.lt j (by omega)
      rw [← h.again i j hi hj hk, he] at this
      have := cntF_mono (K := K) (i := j + 1) (j := i) (by omega)
      omega
  · exact h.first i hi
theorem CompTo.differs {n : Nat} {K : Int → Int → Bool} {k : Nat} {c : List Int} (h : CompTo n K k c) {i : Nat} (hi : i < k) : fstB K i = true ↔ ∀ j : Nat, j < i → el c j ≠ el c i := by
  constructor
  · intro hf j hj
    have := h.lt j (by omega)
    rw [h.first i hi hf]
    have := cntF_mono (K := K) (i := j + 1) (j := i) (by omega)
    omega
  · intro hd
    cases hf : fstB K i with
    | true => rfl
    | false =>
      obtain ⟨j, hj, hk⟩ := first_no hf
      exact absurd (h.again i j hi hj hk).symm (hd j hj)
theorem CompTo.uniq {n : Nat} {K : Int → Int → Bool} {c c' : List Int} (h : CompTo n K n c) (h' : CompTo n K n c') : c = c' := by
  have key : ∀ i : Nat, i < n → el c i = el c' i := by
    intro i
    induction i using Nat.strongRecOn with
    | _ i ih =>
      intro hi
      cases hf : fstB K i with
      | true => rw [h.first i hi hf, h'.first i hi hf]
      | false =>
        obtain ⟨j, hj, hk⟩ := first_no hf
        rw [h.again i j hi hj hk, h'.again i j hi hj hk, ih j hj (by omega)]
  refine extEl (by rw [h.len, h'.len]) fun i h0 h1 => ?_
  have := key i.toNat (by have := h.len; omega)
  rwa [Int.toNat_of_nonneg h0] at this
theorem CompTo.start {n : Nat} {K : Int → Int → Bool} {c : List Int} (h : c.length = n) : CompTo n K 0 c := ⟨h, fun i hi => by omega, fun i j hi => by omega⟩
theorem CompTo.put {n : Nat} {K : Int → Int → Bool} {k : Nat} {c : List Int} {v : Int} (h : CompTo n K k c) (hk : k < n) (h1 : fstB K k = true → v = cntF K k) (h2 : ∀ j : Nat, j < k → K (j : Int) (k : Int) = true → v = el c j) : CompTo n K (k + 1) (c.set (k : Int).toNat v) := by
  have hl := h.len
  have es : el (c.set (k : Int).toNat v) (k : Int) = v := elSetS (by omega) (by omega)
  have en : ∀ j : Nat, j ≠ k → el (c.set (k : Int).toNat v) (j : Int) = el c j := fun j hj => elSetN (by omega) (by omega) (by omega)
  refine ⟨by simpa using hl, fun i hi hf => ?_, fun i j hi hj hK => ?_⟩
  · by_cases e : i = k
    · subst e; rw [es]; exact h1 hf
    · rw [en i e]; exact h.first i (by omega) hf
  · by_cases e : i = k
    · subst e; rw [es, en j (by omega)]; exact h2 j hj hK
    · rw [en i e, en j (by omega)]; exact h.again i j (by omega) hj hK

/-- What the representative says of a first event. -/
theorem UF.first {n : Nat} {P : List Int} {R : Int → Int} {K : Int → Int → Bool} (h : UF n P R) (ht : Tells n R K) {i : Nat} (hi : i < n) : fstB K i = true ↔ R i = i := by
  have hr := h.rng i (by omega) (by omega)
  constructor
  · intro hf
    apply Classical.byContradiction
    intro hne
    have h2 := first_yes hf (k := (R i).toNat) (by omega)
    have h3 := (ht (R i) i hr.1 (by omega) (by omega) (by omega)).2 (h.idem i (by omega) (by omega))
    rw [Int.toNat_of_nonneg hr.1, h3] at h2
    cases h2
  · intro he
    rw [fstB, List.all_eq_true]
    intro k hk
    have hk' := List.mem_range.1 hk
    cases hc : K (k : Int) (i : Int) with
    | false => rfl
    | true =>
      have h1 := (ht k i (by omega) (by omega) (by omega) (by omega)).1 hc
      have h2 := h.rng k (by omega) (by omega)
      omega
end Go.Wk
