/-
  The search's steps: how many there are, and that exactly so many are needed.
-/
import Derived.Test.YtclligkngjhihaaSx
namespace Go.Wk
set_option linter.unusedVariables false
set_option linter.unusedSimpArgs false

/-! ### The number of steps -/
def wS (L : Int) : Nat → Int
  | 0 => 0
  | m + 1 => L * (1 + wS L m)
theorem wS_nonneg {L : Int} (h : 0 ≤ L) : ∀ m, 0 ≤ wS L m
  | 0 => Int.le_refl _
  | m + 1 => Int.mul_nonneg h (by have := wS_nonneg h m; omega)

/-- What a part of the search with at most 'W' steps does to the count. -/
structure Cnt (B W : Int) (s : Sr) (r : Bool × Sr) : Prop where
  lo : s.used ≤ r.2.used
  hi : r.2.used ≤ s.used + W
  ov : s.used + W ≤ B → r.2.over = s.over
  st : s.over = true → r.2.over = true

theorem lpS_cnt {B W : Int} {f : Int → Sr → Bool × Sr} (hW : 0 ≤ W) (hf : ∀ x s, Cnt B W s (f x s)) : ∀ (c : Nat) (x : Int) (s : Sr), Cnt B (c * W) s (lpS f c x s)
  | 0, x, s => by
    unfold lpS
    exact ⟨Int.le_refl _, by simp, fun _ => rfl, fun h => h⟩
  | c + 1, x, s => by
    have h := hf x s
    unfold lpS
    have e : ((c + 1 : Nat) : Int) * W = c * W + W := by rw [Int.natCast_add, Int.add_mul]; simp
    have hc : 0 ≤ (c : Int) * W := Int.mul_nonneg (by omega) hW
    generalize f x s = r at h
    obtain ⟨b, s'⟩ := r
    have h1 := h.lo
    have h2 := h.hi
    have h3 := h.ov
    have h4 := h.st
    simp only at h1 h2 h3 h4
    cases b with
    | true =>
      have k := lpS_cnt hW hf c (x + 1) s'
      have k1 := k.lo
      have k2 := k.hi
      have k3 := k.ov
      exact ⟨by simp only; omega, by simp only; omega, fun h => (k3 (by omega)).trans (h3 (by omega)), fun h => k.st (h4 h)⟩
    | false => exact ⟨h1, by simp only; omega, fun h => h3 (by omega), h4⟩

theorem srch_cnt {N : Net} {all : Bool} {B L : Int} (hp : 1 ≤ N.p) (hL : N.p ≤ L) : ∀ (m i : Nat) (s : Sr), Cnt B (wS L m) s (srch N all B m i s)
  | 0, i, s => by
    unfold srch
    exact ⟨Int.le_refl _, by simp [leafS, wS], fun _ => rfl, fun h => h⟩
  | m + 1, i, s => by
    have hw := wS_nonneg (L := L) (by omega) m
    have hb : ∀ x s, Cnt B (1 + wS L m) s (bodyS N all B i (srch N all B m (i + 1)) x s) := fun x s => by
      unfold bodyS
      split
      · rename_i hu
        exact ⟨Int.le_refl _, by simp only; omega, fun h => by omega, fun _ => rfl⟩
      · split
        · exact ⟨by simp only [stepS]; omega, by simp only [stepS]; omega, fun _ => rfl, fun h => h⟩
        · have k := srch_cnt (all := all) (B := B) hp hL m (i + 1) (stepS i x s)
          have k1 := k.lo
          have k2 := k.hi
          have k3 := k.ov
          have e1 : (stepS i x s).used = s.used + 1 := rfl
          have e2 : (stepS i x s).over = s.over := rfl
          rw [e1] at k1 k2 k3
          exact ⟨by omega, by omega, fun h => (k3 (by omega)).trans e2, fun h => k.st (e2.trans h)⟩
    unfold srch
    have k := lpS_cnt (by omega) hb (limI N i).toNat 0 s
    have hl : 0 ≤ limI N i ∧ limI N i ≤ L := by unfold limI; split <;> omega
    have hle : ((limI N i).toNat : Int) * (1 + wS L m) ≤ wS L (m + 1) := by
      show _ ≤ L * (1 + wS L m)
      exact Int.mul_le_mul_of_nonneg_right (by omega) (by omega)
    have k1 := k.lo
    have k2 := k.hi
    have k3 := k.ov
    exact ⟨k1, by omega, fun h => k3 (by omega), k.st⟩

theorem lpS_over {f : Int → Sr → Bool × Sr} (hf : ∀ x s, s.over = true → (f x s).2.over = true) : ∀ (c : Nat) (x : Int) (s : Sr), s.over = true → (lpS f c x s).2.over = true
  | 0, x, s, h => h
  | c + 1, x, s, h => by
    have k := hf x s h
    unfold lpS
    generalize f x s = r at k
    obtain ⟨b, s'⟩ := r
    cases b with
    | true => exact lpS_over hf c (x + 1) s' k
    | false => exact k
theorem srch_over {N : Net} {all : Bool} {B : Int} : ∀ (m i : Nat) (s : Sr), s.over = true → (srch N all B m i s).2.over = true
  | 0, i, s, h => h
  | m + 1, i, s, h => by
    unfold srch
    refine lpS_over (fun x s h => ?_) _ _ _ h
    unfold bodyS
    split
    · rfl
    · split
      · exact h
      · exact srch_over m (i + 1) (stepS i x s) h

/-! ### Exactly so many steps are needed -/
/-- 'r' is what comes of 's' with a great budget, 'g' what comes with the budget 'B''. -/
structure Exa (s : Sr) (r : Bool × Sr) (g : Int → Bool × Sr) : Prop where
  lo : s.used ≤ r.2.used
  all : ∀ B', r.2.used ≤ B' → g B' = r
  few : ∀ B', s.used ≤ B' → B' < r.2.used → (g B').1 = false ∧ (g B').2.over = true

theorem lpS_exa {f : Int → Sr → Bool × Sr} {g : Int → Int → Sr → Bool × Sr} (ho : ∀ x s, s.over = true → (f x s).2.over = true) (hf : ∀ x s, (f x s).2.over = false → Exa s (f x s) (fun B' => g B' x s)) :
    ∀ (c : Nat) (x : Int) (s : Sr), (lpS f c x s).2.over = false → Exa s (lpS f c x s) (fun B' => lpS (g B') c x s)
  | 0, x, s, h => ⟨Int.le_refl _, fun _ _ => rfl, fun B' h1 h2 => by have : B' < s.used := h2; omega⟩
  | c + 1, x, s, h => by
    unfold lpS at h ⊢
    cases hr : f x s with
    | mk b s' =>
      rw [hr] at h
      cases b with
      | true =>
        simp only at h ⊢
        have hs' : s'.over = false := by
          cases e : s'.over with
          | false => rfl
          | true => rw [lpS_over ho c (x + 1) s' e] at h; cases h
        have k := hf x s (by rw [hr]; exact hs')
        have n := lpS_exa ho hf c (x + 1) s' h
        rw [hr] at k
        have k1 := k.lo
        have k2 := k.all
        have k3 := k.few
        have n1 := n.lo
        have n2 := n.all
        have n3 := n.few
        simp only at k1 k2 k3 n2 n3
        refine ⟨by omega, fun B' hB => ?_, fun B' hB1 hB2 => ?_⟩
        · rw [k2 B' (by omega)]; exact n2 B' hB
        · by_cases hq : s'.used ≤ B'
          · rw [k2 B' hq]; exact n3 B' hq hB2
          · have := k3 B' hB1 (by omega)
            generalize g B' x s = q at this
            obtain ⟨b, s2⟩ := q
            simp only at this
            rw [this.1]
            exact ⟨rfl, this.2⟩
      | false =>
        simp only at h ⊢
        have k := hf x s (by rw [hr]; exact h)
        rw [hr] at k
        have k1 := k.lo
        have k2 := k.all
        have k3 := k.few
        simp only at k1 k2 k3
        refine ⟨k1, fun B' hB => by rw [k2 B' hB], fun B' hB1 hB2 => ?_⟩
        have := k3 B' hB1 hB2
        generalize g B' x s = q at this
        obtain ⟨b, s2⟩ := q
        simp only at this
        rw [this.1]
        exact ⟨rfl, this.2⟩

theorem body_exa {N : Net} {all : Bool} {B : Int} {i : Nat} {rec : Int → Sr → Bool × Sr} (hr : ∀ s, (rec B s).2.over = false → Exa s (rec B s) (fun B' => rec B' s)) (x : Int) (s : Sr) (h : (bodyS N all B i (rec B) x s).2.over = false) :
    Exa s (bodyS N all B i (rec B) x s) (fun B' => bodyS N all B' i (rec B') x s) := by
  have hB : s.used ≠ B := fun e => by
    unfold bodyS at h
    rw [if_pos e] at h
    cases h
  have eB : bodyS N all B i (rec B) x s = if skipS N all (stepS i x s) i = true then (true, stepS i x s) else rec B (stepS i x s) := by unfold bodyS; rw [if_neg hB]
  have e0 : ∀ B', s.used = B' → bodyS N all B' i (rec B') x s = (false, { s with over := true }) := fun B' e => by unfold bodyS; rw [if_pos e]
  have e1 : ∀ B', s.used < B' → bodyS N all B' i (rec B') x s = if skipS N all (stepS i x s) i = true then (true, stepS i x s) else rec B' (stepS i x s) := fun B' e => by unfold bodyS; rw [if_neg (by omega)]
  rw [eB] at h ⊢
  by_cases hk : skipS N all (stepS i x s) i = true
  · rw [if_pos hk] at h ⊢
    refine ⟨by simp only [stepS]; omega, fun B' hB' => ?_, fun B' h1 h2 => ?_⟩
    · have : s.used + 1 ≤ B' := hB'
      rw [e1 B' (by omega), if_pos hk]
    · have : B' < s.used + 1 := h2
      rw [e0 B' (by omega)]
      exact ⟨rfl, rfl⟩
  · rw [if_neg hk] at h ⊢
    have k := hr (stepS i x s) h
    have k1 : s.used + 1 ≤ _ := k.lo
    have k2 := k.all
    have k3 := k.few
    refine ⟨by omega, fun B' hB' => ?_, fun B' h1 h2 => ?_⟩
    · rw [e1 B' (by omega), if_neg hk]
      exact k2 B' hB'
    · by_cases e : s.used = B'
      · rw [e0 B' e]; exact ⟨rfl, rfl⟩
      · rw [e1 B' (by omega), if_neg hk]
        exact k3 B' (by show s.used + 1 ≤ B'; omega) h2
theorem srch_exa {N : Net} {all : Bool} {B : Int} : ∀ (m i : Nat) (s : Sr), (srch N all B m i s).2.over = false → Exa s (srch N all B m i s) (fun B' => srch N all B' m i s)
  | 0, i, s, h => ⟨Int.le_refl _, fun _ _ => rfl, fun B' h1 h2 => by have : B' < s.used := h2; omega⟩
  | m + 1, i, s, h => by
    unfold srch at h ⊢
    refine lpS_exa (f := bodyS N all B i (srch N all B m (i + 1))) (g := fun B' => bodyS N all B' i (srch N all B' m (i + 1))) (fun x s ho => ?_) (fun x s hx => ?_) _ _ _ h
    · unfold bodyS
      split
      · rfl
      · split
        · exact ho
        · exact srch_over m (i + 1) (stepS i x s) ho
    · exact body_exa (rec := fun B' => srch N all B' m (i + 1)) (fun s hs => srch_exa m (i + 1) s hs) x s hx

/-! ### The two searches side by side -/
theorem lpS_fnd {f : Int → Sr → Bool × Sr} (hf : ∀ x s, s.found = true → (f x s).2.found = true) : ∀ (c : Nat) (x : Int) (s : Sr), s.found = true → (lpS f c x s).2.found = true
  | 0, x, s, h => h
  | c + 1, x, s, h => by
    have k := hf x s h
    unfold lpS
    generalize f x s = r at k
    obtain ⟨b, s'⟩ := r
    cases b with
    | true => exact lpS_fnd hf c (x + 1) s' k
    | false => exact k
theorem srch_fnd {N : Net} {all : Bool} {B : Int} : ∀ (m i : Nat) (s : Sr), s.found = true → (srch N all B m i s).2.found = true
  | 0, i, s, h => rfl
  | m + 1, i, s, h => by
    unfold srch
    refine lpS_fnd (fun x s h => ?_) _ _ _ h
    unfold bodyS
    split
    · exact h
    · split
      · exact h
      · exact srch_fnd m (i + 1) (stepS i x s) h
theorem lpS_up {f : Int → Sr → Bool × Sr} (hf : ∀ x s, s.used ≤ (f x s).2.used) : ∀ (c : Nat) (x : Int) (s : Sr), s.used ≤ (lpS f c x s).2.used
  | 0, x, s => Int.le_refl _
  | c + 1, x, s => by
    have k := hf x s
    unfold lpS
    generalize f x s = r at k
    obtain ⟨b, s'⟩ := r
    cases b with
    | true => exact Int.le_trans k (lpS_up hf c (x + 1) s')
    | false => exact k
/-- 'r0' of the search for any times, 'r1' of the search for the best. -/
def Cmp (r0 r1 : Bool × Sr) : Prop := (r1 = r0 ∧ r0.2.found = false) ∨ (r0.1 = false ∧ r0.2.found = true ∧ r1.2.found = true ∧ r0.2.used ≤ r1.2.used)
theorem lpS_cmp {f g : Int → Sr → Bool × Sr} (hf : ∀ x s, s.found = false → Cmp (f x s) (g x s)) (hg : ∀ x s, s.found = true → (g x s).2.found = true) (hu : ∀ x s, s.used ≤ (g x s).2.used) : ∀ (c : Nat) (x : Int) (s : Sr), s.found = false → Cmp (lpS f c x s) (lpS g c x s)
  | 0, x, s, h => .inl ⟨rfl, h⟩
  | c + 1, x, s, h => by
    have k := hf x s h
    unfold lpS
    generalize f x s = r0 at k
    generalize g x s = r1 at k
    obtain ⟨b0, s0⟩ := r0
    obtain ⟨b1, s1⟩ := r1
    rcases k with ⟨e, h1⟩ | ⟨h1, h2, h3, h4⟩
    · cases e
      cases b0 with
      | true => exact lpS_cmp hf hg hu c (x + 1) s0 h1
      | false => exact .inl ⟨rfl, h1⟩
    · simp only at h1 h2 h3 h4
      subst h1
      cases b1 with
      | true => exact .inr ⟨rfl, h2, lpS_fnd hg c (x + 1) s1 h3, Int.le_trans h4 (lpS_up hu c (x + 1) s1)⟩
      | false => exact .inr ⟨rfl, h2, h3, h4⟩
theorem srch_up {N : Net} {all : Bool} {B : Int} : ∀ (m i : Nat) (s : Sr), s.used ≤ (srch N all B m i s).2.used
  | 0, i, s => Int.le_refl _
  | m + 1, i, s => by
    unfold srch
    refine lpS_up (fun x s => ?_) _ _ _
    unfold bodyS
    split
    · exact Int.le_refl _
    · split
      · simp only [stepS]; omega
      · have := srch_up (N := N) (all := all) (B := B) m (i + 1) (stepS i x s)
        have e : (stepS i x s).used = s.used + 1 := rfl
        omega
theorem srch_cmp {N : Net} {B : Int} : ∀ (m i : Nat) (s : Sr), s.found = false → Cmp (srch N false B m i s) (srch N true B m i s)
  | 0, i, s, h => .inr ⟨rfl, rfl, rfl, Int.le_refl _⟩
  | m + 1, i, s, h => by
    unfold srch
    refine lpS_cmp (fun x s h => ?_) (fun x s h => ?_) (fun x s => ?_) _ _ _ h
    · have e : skipS N true (stepS i x s) i = skipS N false (stepS i x s) i := by
        unfold skipS
        have : (stepS i x s).found = false := h
        rw [this]
        simp
      unfold bodyS
      rw [e]
      by_cases h1 : s.used = B
      · rw [if_pos h1, if_pos h1]; exact .inl ⟨rfl, h⟩
      · rw [if_neg h1, if_neg h1]
        by_cases h2 : skipS N false (stepS i x s) i = true
        · rw [if_pos h2, if_pos h2]; exact .inl ⟨rfl, h⟩
        · rw [if_neg h2, if_neg h2]; exact srch_cmp m (i + 1) (stepS i x s) h
    · unfold bodyS
      split
      · exact h
      · split
        · exact h
        · exact srch_fnd m (i + 1) (stepS i x s) h
    · unfold bodyS
      split
      · exact Int.le_refl _
      · split
        · simp only [stepS]; omega
        · have := srch_up (N := N) (all := true) (B := B) m (i + 1) (stepS i x s)
          have e : (stepS i x s).used = s.used + 1 := rfl
          omega

/-! ### Small networks -/
theorem wS9 : ∀ m : Nat, m ≤ 5 → wS 9 m ≤ 66429
  | 0, _ => by decide
  | 1, _ => by decide
  | 2, _ => by decide
  | 3, _ => by decide
  | 4, _ => by decide
  | 5, _ => by decide
  | m + 6, h => by omega
theorem small_cnt {N : Net} (h : SmallNet N) (all : Bool) {B : Int} (hB : 66429 ≤ B) : (findS N all B).over = false ∧ (findS N all B).used ≤ 66429 := by
  obtain ⟨hok, h2, h9, h1, h5, h8, hmn⟩ := h
  have k := srch_cnt (N := N) (all := all) (B := B) (L := 9) (by omega) h9 N.evs.length 0 (start0 N.evs.length)
  have hw := wS9 N.evs.length h5
  have e : (start0 N.evs.length).used = 0 := rfl
  have k2 := k.hi
  have k3 := k.ov
  rw [e] at k2 k3
  exact ⟨k3 (by omega), by unfold findS; omega⟩
theorem small_err {N : Net} (h : SmallNet N) (all : Bool) : findE N all 1048576 = 14 ∧ (findS N all 1048576).found = false ∨ findE N all 1048576 = 0 ∧ (findS N all 1048576).found = true := by
  have hov := (small_cnt h all (B := 1048576) (by omega)).1
  unfold findE
  rw [if_pos (netOk_iff.2 h.1), if_pos (by omega), hov, if_neg (by decide)]
  cases (findS N all 1048576).found with
  | false => exact .inl ⟨by simp, rfl⟩
  | true => exact .inr ⟨by simp, rfl⟩
theorem small_same {N : Net} (h : SmallNet N) : findE N true 1048576 = findE N false 1048576 ∧ (findS N false 1048576).used ≤ (findS N true 1048576).used := by
  have c := srch_cmp (N := N) (B := 1048576) N.evs.length 0 (start0 N.evs.length) rfl
  have a := small_err h true
  have b := small_err h false
  unfold findS at a b ⊢
  rcases c with ⟨c1, c2⟩ | ⟨c1, c2, c3, c4⟩
  · rw [c1, c2] at a
    rw [c2] at b
    refine ⟨?_, by rw [c1]; exact Int.le_refl _⟩
    rcases a with a | a
    · rcases b with b | b
      · rw [a.1, b.1]
      · cases b.2
    · cases a.2
  · rw [c3] at a
    rw [c2] at b
    refine ⟨?_, c4⟩
    rcases a with a | a
    · cases a.2
    · rcases b with b | b
      · cases b.2
      · rw [a.1, b.1]
theorem small_one {N : Net} (h : SmallNet N) (all : Bool) : 1 ≤ (findS N all 1048576).used := by
  have hov := (small_cnt h all (B := 1048576) (by omega)).1
  have k := srch_exa (N := N) (all := all) (B := 1048576) N.evs.length 0 (start0 N.evs.length) hov
  apply Classical.byContradiction
  intro hne
  have e := k.all 0 (by unfold findS at hne; omega)
  unfold findS at hov
  rw [← e] at hov
  obtain ⟨hok, h2, h9, h1, h5, h8, hmn⟩ := h
  obtain ⟨m, hm⟩ : ∃ m, N.evs.length = m + 1 := ⟨N.evs.length - 1, by omega⟩
  obtain ⟨c, hc⟩ : ∃ c, (limI N 0).toNat = c + 1 := ⟨(limI N 0).toNat - 1, by unfold limI; split <;> omega⟩
  rw [hm] at hov
  unfold srch at hov
  rw [hc] at hov
  unfold lpS bodyS at hov
  rw [if_pos (show (start0 (m + 1)).used = 0 from rfl)] at hov
  cases hov
/-- What the law on budgets asks for. -/
structure Bud (N : Net) (all : Bool) : Prop where
  er : findE N all 1048576 = 0 ∨ findE N all 1048576 = 14
  one : 1 ≤ findU N all 1048576
  top : findU N all 1048576 ≤ 1048576
  sE : findE N all (findU N all 1048576) = findE N all 1048576
  sU : findU N all (findU N all 1048576) = findU N all 1048576
  sC : findC N all (findU N all 1048576) = findC N all 1048576
  sT : findT N all (findU N all 1048576) = findT N all 1048576
  lE : 1 < findU N all 1048576 → findE N all (findU N all 1048576 - 1) = 15
  lU : 1 < findU N all 1048576 → findU N all (findU N all 1048576 - 1) = 0
theorem small_bud {N : Net} (h : SmallNet N) (all : Bool) : Bud N all := by
  have hcn := small_cnt h all (B := 1048576) (by omega)
  have hov := hcn.1
  have h1 := small_one h all
  have he : findE N all 1048576 = 0 ∨ findE N all 1048576 = 14 := by
    rcases small_err h all with e | e
    · exact .inr e.1
    · exact .inl e.1
  have hU : findU N all 1048576 = (findS N all 1048576).used := by unfold findU; rw [if_pos he]
  have k := srch_exa (N := N) (all := all) (B := 1048576) N.evs.length 0 (start0 N.evs.length) hov
  have e1 : findS N all (findS N all 1048576).used = findS N all 1048576 := by
    have := k.all (findS N all 1048576).used (Int.le_refl _)
    unfold findS
    exact congrArg Prod.snd this
  have hnk := netOk_iff.2 h.1
  have eE : findE N all (findS N all 1048576).used = findE N all 1048576 := by
    have q : ∀ B : Int, 1 ≤ B → B ≤ 1048576 → findE N all B = (if (findS N all B).over = true then 15 else if (findS N all B).found = false then 14 else 0) := fun B h1 h2 => by unfold findE; rw [if_pos hnk, if_pos ⟨h1, h2⟩]
    rw [q _ h1 (by omega), q 1048576 (by omega) (by omega), e1]
  have few : 1 < (findS N all 1048576).used → (findS N all ((findS N all 1048576).used - 1)).over = true := fun hq =>
    (k.few ((findS N all 1048576).used - 1) (by show (0 : Int) ≤ _; omega) (by show _ < (findS N all 1048576).used; omega)).2
  have eL : 1 < (findS N all 1048576).used → findE N all ((findS N all 1048576).used - 1) = 15 := fun hq => by
    unfold findE
    rw [if_pos hnk, if_pos (by omega), if_pos (few hq)]
  refine ⟨he, ?_, ?_, ?_, ?_, ?_, ?_, ?_, ?_⟩ <;> rw [hU]
  · exact h1
  · omega
  · exact eE
  · unfold findU; rw [eE, if_pos he, e1]
  · unfold findC; rw [eE, e1]
  · unfold findT; rw [eE, e1]
  · exact eL
  · intro hq; unfold findU; rw [eL hq, if_neg (by omega)]
theorem small_le {N : Net} (h : SmallNet N) : findU N false 1048576 ≤ findU N true 1048576 := by
  unfold findU
  rw [if_pos (small_bud h false).er, if_pos (small_bud h true).er]
  exact (small_same h).2
end Go.Wk
