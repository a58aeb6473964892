/-
  Cycles of networks as plain data (layer 12): what a cycle is, ways along a forest, what a search by rounds reaches.
-/
import Derived.Test.YtclligkngjhihaaPt
namespace Go.Wk
set_option linter.unusedVariables false
set_option linter.unusedSimpArgs false

/-- Where an arc starts, and where it ends. -/
def cySt (N : Net) (a s : Int) : Int := if s < 0 then (el N.acts a).tt else (el N.acts a).fr
def cyEn (N : Net) (a s : Int) : Int := if s < 0 then (el N.acts a).fr else (el N.acts a).tt
def stK (N : Net) (arcs signs : List Int) (k : Nat) : Int := cySt N (el arcs (k : Int)) (el signs (k : Int))
def enK (N : Net) (arcs signs : List Int) (k : Nat) : Int := cyEn N (el arcs (k : Int)) (el signs (k : Int))
/-- The first 'k' arcs: numbers, signs, no arc twice. -/
structure CyA (N : Net) (arcs signs : List Int) (k : Nat) : Prop where
  rng : ∀ q : Nat, q < k → 0 ≤ el arcs (q : Int) ∧ el arcs (q : Int) < N.acts.length ∧ (el signs (q : Int) = 1 ∨ el signs (q : Int) = -1)
  dist : ∀ i j : Nat, i < j → j < k → el arcs (i : Int) ≠ el arcs (j : Int)
theorem CyA.zero {N : Net} {arcs signs : List Int} : CyA N arcs signs 0 := ⟨fun q hq => by omega, fun i j hi hj => by omega⟩
theorem CyA.succ {N : Net} {arcs signs : List Int} {k : Nat} (h : CyA N arcs signs k) (h0 : 0 ≤ el arcs (k : Int)) (h1 : el arcs (k : Int) < N.acts.length) (h2 : el signs (k : Int) = 1 ∨ el signs (k : Int) = -1) (hd : ∀ i : Nat, i < k → el arcs (i : Int) ≠ el arcs (k : Int)) : CyA N arcs signs (k + 1) := by
  refine ⟨fun q hq => ?_, fun i j hi hj => ?_⟩
  · by_cases e : q = k
    · subst e; exact ⟨h0, h1, h2⟩
    · exact h.rng q (by omega)
  · by_cases e : j = k
    · subst e; exact hd i hi
    · exact h.dist i j hi (by omega)
theorem CyA.less {N : Net} {arcs signs : List Int} {k m : Nat} (h : CyA N arcs signs m) (hk : k ≤ m) : CyA N arcs signs k := ⟨fun q hq => h.rng q (by omega), fun i j hi hj => h.dist i j hi (by omega)⟩
/-- The first 'k' arcs join: each starts where the one before ends (the first one: where the last one ends), no event twice. -/
structure CyB (N : Net) (arcs signs : List Int) (k : Nat) : Prop where
  close : 0 < k → stK N arcs signs 0 = enK N arcs signs (arcs.length - 1)
  join : ∀ q : Nat, q + 1 < k → stK N arcs signs (q + 1) = enK N arcs signs q
  dist : ∀ i j : Nat, i < j → j < k → stK N arcs signs i ≠ stK N arcs signs j
theorem CyB.zero {N : Net} {arcs signs : List Int} : CyB N arcs signs 0 := ⟨fun h => by omega, fun q hq => by omega, fun i j hi hj => by omega⟩
theorem CyB.less {N : Net} {arcs signs : List Int} {k m : Nat} (h : CyB N arcs signs m) (hk : k ≤ m) : CyB N arcs signs k := ⟨fun h0 => h.close (by omega), fun q hq => h.join q (by omega), fun i j hi hj => h.dist i j hi (by omega)⟩
/-- Where the arc 'k' has to start. -/
def atK (N : Net) (arcs signs : List Int) (k : Nat) : Int := if k = 0 then enK N arcs signs (arcs.length - 1) else enK N arcs signs (k - 1)
theorem CyB.succ {N : Net} {arcs signs : List Int} {k : Nat} (h : CyB N arcs signs k) (h0 : stK N arcs signs k = atK N arcs signs k) (hd : ∀ i : Nat, i < k → stK N arcs signs i ≠ stK N arcs signs k) : CyB N arcs signs (k + 1) := by
  refine ⟨fun _ => ?_, fun q hq => ?_, fun i j hi hj => ?_⟩
  · by_cases e : k = 0
    · subst e; exact h0
    · exact h.close (by omega)
  · by_cases e : q + 1 = k
    · subst e; rw [h0]; unfold atK; rw [if_neg (by omega)]; rfl
    · exact h.join q (by omega)
  · by_cases e : j = k
    · subst e; exact hd i hi
    · exact h.dist i j hi (by omega)
theorem CyB.at {N : Net} {arcs signs : List Int} {k m : Nat} (h : CyB N arcs signs m) (hk : k < m) : stK N arcs signs k = atK N arcs signs k := by
  unfold atK
  by_cases e : k = 0
  · subst e; exact h.close hk
  · rw [if_neg e]
    have := h.join (k - 1) (by omega)
    rwa [show k - 1 + 1 = k by omega] at this
/-- A cycle. -/
structure CyOk (N : Net) (arcs signs : List Int) : Prop where
  ok : NetOk N
  len : arcs.length = signs.length
  two : 2 ≤ arcs.length
  a : CyA N arcs signs arcs.length
  b : CyB N arcs signs arcs.length
/-- What has been met so far. -/
def MetTo (f : Nat → Int) (k : Nat) (l : List Bool) : Prop := ∀ e : Int, 0 ≤ e → e < l.length → (el l e = true ↔ ∃ q : Nat, q < k ∧ f q = e)
theorem MetTo.zero {f : Nat → Int} {n : Nat} : MetTo f 0 (List.replicate n false) := fun e h0 h1 => by
  rw [List.length_replicate] at h1
  rw [elRep h0 h1]
  exact ⟨fun h => (by cases h), fun ⟨q, hq, _⟩ => (by omega)⟩
theorem MetTo.put {f : Nat → Int} {k : Nat} {l : List Bool} (h : MetTo f k l) (h0 : 0 ≤ f k) (h1 : f k < l.length) : MetTo f (k + 1) (l.set (f k).toNat true) := fun e e0 e1 => by
  rw [List.length_set] at e1
  by_cases q : e = f k
  · rw [q, elSetS h0 h1]; exact ⟨fun _ => ⟨k, by omega, rfl⟩, fun _ => rfl⟩
  · rw [elSetN h0 e0 q, h e e0 e1]
    constructor
    · rintro ⟨p, hp, he⟩; exact ⟨p, by omega, he⟩
    · rintro ⟨p, hp, he⟩
      by_cases e2 : p = k
      · subst e2; exact absurd he.symm q
      · exact ⟨p, by omega, he⟩

/-! ### Sums over a cycle -/
def totC (arcs signs vals : List Int) : Nat → Int
  | 0 => 0
  | k + 1 => totC arcs signs vals k + el signs (k : Int) * el vals (el arcs (k : Int))

/-! ### Ways along a forest -/
structure Pa (N : Net) (tree : List Int) (rk : Int → Nat) (x y : Int) (arcs signs xs : List Int) : Prop where
  len : xs.length = arcs.length + 1
  slen : signs.length = arcs.length
  x0 : el xs 0 = x
  xl : el xs (arcs.length : Int) = y
  rkm : ∀ p q : Nat, p < q → q < xs.length → rk (el xs (p : Int)) < rk (el xs (q : Int))
  stp : ∀ k : Nat, k < arcs.length → el arcs (k : Int) ∈ tree ∧ (el signs (k : Int) = 1 ∨ el signs (k : Int) = -1) ∧ stK N arcs signs k = el xs (k : Int) ∧ enK N arcs signs k = el xs ((k : Int) + 1)
theorem el_cons0 {α : Type} [Inhabited α] (a : α) (l : List α) : el (a :: l) 0 = a := rfl
theorem el_consS {α : Type} [Inhabited α] (a : α) (l : List α) (k : Nat) : el (a :: l) ((k + 1 : Nat) : Int) = el l (k : Int) := by simp [el]
theorem el_consI {α : Type} [Inhabited α] (a : α) (l : List α) {i : Int} (h : 0 ≤ i) : el (a :: l) (i + 1) = el l i := by
  obtain ⟨k, rfl⟩ := Int.eq_ofNat_of_zero_le h
  exact el_consS a l k
theorem Pa.nil {N : Net} {tree : List Int} {rk : Int → Nat} {x : Int} : Pa N tree rk x x [] [] [x] := ⟨rfl, rfl, rfl, rfl, fun p q hp hq => by simp at hq; omega, fun k hk => by simp at hk⟩
theorem Pa.cons {N : Net} {tree : List Int} {rk : Int → Nat} {x y z v s : Int} {arcs signs xs : List Int} (h : Pa N tree rk x y arcs signs xs) (hv : v ∈ tree) (hs : s = 1 ∨ s = -1) (h1 : cySt N v s = z) (h2 : cyEn N v s = x) (hr : rk z < rk x) : Pa N tree rk z y (v :: arcs) (s :: signs) (z :: xs) := by
  have hmin : ∀ q : Nat, q < xs.length → rk x ≤ rk (el xs (q : Int)) := fun q hq => by
    by_cases e : q = 0
    · subst e
      have := h.x0
      rw [show ((0 : Nat) : Int) = 0 from rfl, this]; exact Nat.le_refl _
    · have := h.rkm 0 q (by omega) hq
      rw [show ((0 : Nat) : Int) = 0 from rfl, h.x0] at this
      omega
  have hl := h.len
  refine ⟨by simp [h.len], by simp [h.slen], rfl, ?_, fun p q hp hq => ?_, fun k hk => ?_⟩
  · rw [List.length_cons, el_consS]; exact h.xl
  · obtain ⟨q', rfl⟩ : ∃ q', q = q' + 1 := ⟨q - 1, by omega⟩
    rw [List.length_cons] at hq
    rw [el_consS]
    by_cases e : p = 0
    · subst e
      have := hmin q' (by omega)
      show rk z < _
      omega
    · obtain ⟨p', rfl⟩ : ∃ p', p = p' + 1 := ⟨p - 1, by omega⟩
      rw [el_consS]; exact h.rkm p' q' (by omega) (by omega)
  · by_cases e : k = 0
    · subst e
      refine ⟨hv, hs, h1, ?_⟩
      show cyEn N v s = _
      rw [h2]
      exact h.x0.symm
    · obtain ⟨k', rfl⟩ : ∃ k', k = k' + 1 := ⟨k - 1, by omega⟩
      rw [List.length_cons] at hk
      have := h.stp k' (by omega)
      unfold stK enK at this ⊢
      rw [el_consS, el_consS, el_consS, show (((k' + 1 : Nat) : Int) + 1) = ((k' + 1 + 1 : Nat) : Int) by omega, el_consS]
      rw [show ((k' + 1 : Nat) : Int) = (k' : Int) + 1 by omega]
      exact this
/-- An activity outside of the forest, and the way along the forest from its end to its start: a cycle. -/
theorem Pa.cycle {N : Net} {tree : List Int} {rk : Int → Nat} {i : Nat} {arcs signs xs : List Int} (hN : NetOk N) (hi : i < N.acts.length) (hni : ¬ (i : Int) ∈ tree) (ht : ∀ a ∈ tree, 0 ≤ a ∧ a < N.acts.length)
    (h : Pa N tree rk (el N.acts (i : Int)).tt (el N.acts (i : Int)).fr arcs signs xs) : CyOk N ((i : Int) :: arcs) (1 :: signs) := by
  have hl := h.len
  have ok := hN.acs _ (el_mem (l := N.acts) (i := (i : Int)) (by omega) (by omega))
  have hne : arcs.length ≠ 0 := fun e => by
    have h1 := h.x0
    have h2 := h.xl
    rw [e] at h2
    exact ok.ne (h2.symm.trans h1)
  have hinj : ∀ p q : Nat, p < xs.length → q < xs.length → el xs (p : Int) = el xs (q : Int) → p = q := fun p q hp hq he => by
    rcases Nat.lt_trichotomy p q with c | c | c
    · have := h.rkm p q c hq; rw [he] at this; omega
    · exact c
    · have := h.rkm q p c hp; rw [he] at this; omega
  have hst : ∀ k : Nat, stK N ((i : Int) :: arcs) (1 :: signs) (k + 1) = stK N arcs signs k := fun k => by unfold stK; rw [el_consS, el_consS]
  have hen : ∀ k : Nat, enK N ((i : Int) :: arcs) (1 :: signs) (k + 1) = enK N arcs signs k := fun k => by unfold enK; rw [el_consS, el_consS]
  have hs0 : stK N ((i : Int) :: arcs) (1 :: signs) 0 = (el N.acts (i : Int)).fr := rfl
  have he0 : enK N ((i : Int) :: arcs) (1 :: signs) 0 = (el N.acts (i : Int)).tt := rfl
  refine ⟨hN, by simp [h.slen], by rw [List.length_cons]; omega, ⟨fun q hq => ?_, fun p q hp hq => ?_⟩, ⟨fun _ => ?_, fun q hq => ?_, fun p q hp hq => ?_⟩⟩
  · by_cases e : q = 0
    · subst e; exact ⟨by show (0 : Int) ≤ i; omega, by show (i : Int) < _; omega, .inl rfl⟩
    · obtain ⟨q', rfl⟩ : ∃ q', q = q' + 1 := ⟨q - 1, by omega⟩
      rw [List.length_cons] at hq
      obtain ⟨h1, h2, _⟩ := h.stp q' (by omega)
      rw [el_consS, el_consS]
      exact ⟨(ht _ h1).1, (ht _ h1).2, h2⟩
  · obtain ⟨q', rfl⟩ : ∃ q', q = q' + 1 := ⟨q - 1, by omega⟩
    rw [List.length_cons] at hq
    obtain ⟨h1, h2, h3, h4⟩ := h.stp q' (by omega)
    rw [el_consS]
    by_cases e : p = 0
    · subst e
      intro he
      exact hni (by rw [show ((0 : Nat) : Int) = 0 from rfl, el_cons0] at he; rw [he]; exact h1)
    · obtain ⟨p', rfl⟩ : ∃ p', p = p' + 1 := ⟨p - 1, by omega⟩
      rw [el_consS]
      intro he
      obtain ⟨k1, k2, k3, k4⟩ := h.stp p' (by omega)
      have key : el xs ((q' : Int) + 1) = el xs (p' : Int) ∨ el xs ((q' : Int) + 1) = el xs ((p' : Int) + 1) := by
        rw [← h4, ← k3, ← k4]
        unfold stK enK cySt cyEn
        rw [he]
        rcases h2 with e1 | e1 <;> rcases k2 with e2 | e2 <;> rw [e1, e2] <;> simp
      rcases key with key | key
      · have := hinj (q' + 1) p' (by omega) (by omega) (by simpa using key); omega
      · have := hinj (q' + 1) (p' + 1) (by omega) (by omega) (by simpa using key); omega
  · obtain ⟨m, hm⟩ : ∃ m, arcs.length = m + 1 := ⟨arcs.length - 1, by omega⟩
    rw [List.length_cons, hm, show m + 1 + 1 - 1 = m + 1 by omega, hen, hs0]
    obtain ⟨_, _, _, h4⟩ := h.stp m (by omega)
    rw [h4, ← h.xl, hm]; congr 1
  · rw [List.length_cons] at hq
    rw [hst]
    obtain ⟨_, _, h3, _⟩ := h.stp q (by omega)
    rw [h3]
    by_cases e : q = 0
    · subst e; rw [he0]; exact h.x0
    · obtain ⟨q', rfl⟩ : ∃ q', q = q' + 1 := ⟨q - 1, by omega⟩
      obtain ⟨_, _, _, h4⟩ := h.stp q' (by omega)
      rw [hen, h4]; congr 1
  · obtain ⟨q', rfl⟩ : ∃ q', q = q' + 1 := ⟨q - 1, by omega⟩
    rw [List.length_cons] at hq
    rw [hst]
    obtain ⟨_, _, h3, _⟩ := h.stp q' (by omega)
    rw [h3]
    by_cases e : p = 0
    · subst e; rw [hs0, ← h.xl]
      intro he
      have := hinj _ _ (by omega) (by omega) he; omega
    · obtain ⟨p', rfl⟩ : ∃ p', p = p' + 1 := ⟨p - 1, by omega⟩
      obtain ⟨_, _, k3, _⟩ := h.stp p' (by omega)
      rw [hst, k3]
      intro he
      have := hinj _ _ (by omega) (by omega) he; omega
end Go.Wk
