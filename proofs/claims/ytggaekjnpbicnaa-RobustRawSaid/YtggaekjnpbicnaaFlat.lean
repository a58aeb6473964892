/-
  A matrix laid in one row, with a great number where there is no chain; how great its other entries can be (plain mathematics).
-/
import Derived.Test.YtggaekjnpbicnaaFw
namespace Go.Wk
set_option linter.unusedVariables false
set_option linter.unusedSimpArgs false

/-- 'j' is reached from 'i' over events below 'k'. -/
inductive Rch (N : Net) (k : Nat) : Int → Int → Prop
  | one {a : Ac} (ha : a ∈ N.acts) (hk : a.kd ≠ 5) : Rch N k a.fr a.tt
  | snoc {i : Int} {a : Ac} (h : Rch N k i a.fr) (h0 : 0 ≤ a.fr) (h1 : a.fr < k) (ha : a ∈ N.acts) (hk : a.kd ≠ 5) : Rch N k i a.tt

theorem Rch.mono {N : Net} {k : Nat} {i j : Int} (h : Rch N k i j) : Rch N (k + 1) i j := by
  induction h with
  | one ha hk => exact .one ha hk
  | snoc h h0 h1 ha hk ih => exact .snoc ih h0 (by omega) ha hk
theorem Rch.trans {N : Net} {k : Nat} {i x j : Int} (h1 : Rch N k i x) (x0 : 0 ≤ x) (x1 : x < k) (h2 : Rch N k x j) : Rch N k i j := by
  induction h2 with
  | one ha hk => exact .snoc h1 x0 x1 ha hk
  | snoc h h0 h1' ha hk ih => exact .snoc (ih h1 x0 x1) h0 h1' ha hk

/-- A chain that meets no event twice, with the events in between. -/
inductive Sim (N : Net) (t : List Int) (k : Nat) (i : Int) : List Int → Int → Int → Prop
  | one {a : Ac} (ha : a ∈ N.acts) (hk : a.kd ≠ 5) (hi : a.fr = i) : Sim N t k i [] a.tt (slackA N t a)
  | snoc {vs : List Int} {q : Int} {a : Ac} (h : Sim N t k i vs a.fr q) (h0 : 0 ≤ a.fr) (h1 : a.fr < k) (hn : a.fr ∉ vs) (ha : a ∈ N.acts) (hk : a.kd ≠ 5) : Sim N t k i (a.fr :: vs) a.tt (q + slackA N t a)

theorem Sim.cut {N : Net} {t : List Int} {k : Nat} {i j q : Int} {vs : List Int} (h : Sim N t k i vs j q) {x : Int} (hx : x ∈ vs) : ∃ vs' q', Sim N t k i vs' x q' ∧ x ∉ vs' := by
  induction h with
  | one ha hk hi => cases hx
  | snoc h h0 h1 hn ha hk ih =>
    rcases List.mem_cons.1 hx with rfl | hx
    · exact ⟨_, _, h, hn⟩
    · exact ih hx
theorem Rch.sim {N : Net} (t : List Int) {k : Nat} {i j : Int} (h : Rch N k i j) : ∃ vs q, Sim N t k i vs j q := by
  induction h with
  | one ha hk => exact ⟨_, _, .one ha hk rfl⟩
  | @snoc i a h h0 h1 ha hk ih =>
    obtain ⟨vs, q, hs⟩ := ih
    by_cases hv : a.fr ∈ vs
    · obtain ⟨vs', q', hs', hn⟩ := hs.cut hv
      exact ⟨_, _, .snoc hs' h0 h1 hn ha hk⟩
    · exact ⟨_, _, .snoc hs h0 h1 hv ha hk⟩
theorem nodup_len : ∀ (k : Nat) (vs : List Int), vs.Nodup → (∀ x ∈ vs, 0 ≤ x ∧ x < k) → vs.length ≤ k
  | 0, vs, _, hr => by
    cases vs with
    | nil => simp
    | cons x r => have := hr x (List.mem_cons_self ..); omega
  | k + 1, vs, hn, hr => by
    by_cases hk : (k : Int) ∈ vs
    · have := nodup_len k (vs.erase k) (hn.erase _) (fun x hx => by
        obtain ⟨h1, h2⟩ := hn.mem_erase_iff.1 hx
        have := hr x h2
        omega)
      rw [List.length_erase_of_mem hk] at this
      omega
    · have := nodup_len k vs hn (fun x hx => by
        have h1 := hr x hx
        have : x ≠ k := by intro e; subst e; exact hk hx
        omega)
      omega
theorem Sim.good {N : Net} {t : List Int} {k : Nat} {i j q : Int} {vs : List Int} (h : Sim N t k i vs j q) (hN : NetOk N) : vs.Nodup ∧ (∀ x ∈ vs, 0 ≤ x ∧ x < k) ∧ q ≤ 7200 * (vs.length + 1) := by
  have p2 := hN.p2
  have p7 := hN.p7
  induction h with
  | @one a ha hk hi =>
    have := slack_rng (N := N) (t := t) (a := a) (by omega)
    exact ⟨List.nodup_nil, fun x hx => by (cases hx), by simp; omega⟩
  | @snoc vs q a h h0 h1 hn ha hk ih =>
    have := slack_rng (N := N) (t := t) (a := a) (by omega)
    refine ⟨List.nodup_cons.2 ⟨hn, ih.1⟩, fun x hx => ?_, ?_⟩
    · rcases List.mem_cons.1 hx with rfl | hx
      · exact ⟨h0, h1⟩
      · exact ih.2.1 x hx
    · have := ih.2.2
      simp only [List.length_cons]
      omega
theorem Sim.le {N : Net} {t : List Int} {n k : Nat} {B i j q : Int} {vs : List Int} {M : Int → Int → Int} (h : Sim N t k i vs j q) (hw : FwOk N t n k B M) (hN : NetOk N) (hn : N.evs.length = n) (i0 : 0 ≤ i) (i1 : i < n) : M i j ≠ -1 ∧ M i j ≤ q := by
  have hl : (N.evs.length : Int) = n := by omega
  induction h with
  | one ha hk hi => subst hi; exact hw.edge _ ha hk
  | @snoc vs q a h h0 h1 hn' ha hk ih =>
    have ok := hN.acs a ha
    obtain ⟨e1, e2⟩ := hw.edge a ha hk
    have := hw.tri a.fr h0 h1 i a.tt i0 i1 ok.t0 (by have := ok.t1; omega) ih.1 e1
    exact ⟨this.1, by omega⟩

/-- Where the matrix has an entry, the event is reached. -/
def FinOk (N : Net) (n k : Nat) (M : Int → Int → Int) : Prop := ∀ i j : Int, 0 ≤ i → i < n → 0 ≤ j → j < n → M i j ≠ -1 → Rch N k i j
theorem FinOk.none {N : Net} {n k : Nat} : FinOk N n k (fun _ _ => -1) := fun _ _ _ _ _ _ h => absurd rfl h
theorem FinOk.add {N : Net} {n k : Nat} {M M' : Int → Int → Int} {a : Ac} {v : Int} (h : FinOk N n k M) (ha : a ∈ N.acts) (hk : a.kd ≠ 5) (hM : ∀ x y : Int, 0 ≤ x → 0 ≤ y → M' x y = if x = a.fr ∧ y = a.tt then v else M x y) : FinOk N n k M' := by
  intro i j i0 i1 j0 j1 hne
  rw [hM i j i0 j0] at hne
  by_cases hc : i = a.fr ∧ j = a.tt
  · obtain ⟨rfl, rfl⟩ := hc; exact .one ha hk
  · rw [if_neg hc] at hne; exact h i j i0 i1 j0 j1 hne
theorem FinOk.next {N : Net} {n k : Nat} {M M' : Int → Int → Int} (h : FinOk N n k M) (hk : k < n) (he : ∀ (x y : Int), 0 ≤ x → x < n → 0 ≤ y → y < n → M' x y = rlx M k x y) : FinOk N n (k + 1) M' := by
  intro i j i0 i1 j0 j1 hne
  rw [he i j i0 i1 j0 j1] at hne
  rcases rlx_cases (M := M) (k := k) i j with e | ⟨e1, e2, e⟩
  · rw [e] at hne; exact (h i j i0 i1 j0 j1 hne).mono
  · exact (h i k i0 i1 (by omega) (by omega) e1).mono.trans (by omega) (by omega) (h k j (by omega) (by omega) j0 j1 e2).mono
theorem fw_tight {N : Net} {t : List Int} {n k : Nat} {B : Int} {M : Int → Int → Int} (h : FwOk N t n k B M) (hf : FinOk N n k M) (hN : NetOk N) (hn : N.evs.length = n) (hk : k ≤ n) {i j : Int} (i0 : 0 ≤ i) (i1 : i < n) (j0 : 0 ≤ j) (j1 : j < n) : M i j = -1 ∨ (0 ≤ M i j ∧ M i j ≤ 352800) := by
  rcases h.snd i j i0 i1 j0 j1 with h' | ⟨h1, _, _⟩
  · exact .inl h'
  · right
    obtain ⟨vs, q, hs⟩ := (hf i j i0 i1 j0 j1 (by omega)).sim t
    have h2 := (hs.le h hN hn i0 i1).2
    obtain ⟨g1, g2, g3⟩ := hs.good hN
    have g4 := nodup_len k vs g1 g2
    have := hN.ev
    exact ⟨h1, by omega⟩

/-! ### One row -/

def flatV (m : Int) : Int := if m = -1 then 1152921504606846976 else m
structure FlatM (n : Nat) (d : List Int) (M : Int → Int → Int) : Prop where
  len : d.length = n * n
  val : ∀ i j : Int, 0 ≤ i → i < n → 0 ≤ j → j < n → el d (i * n + j) = flatV (M i j)

theorem flat_rng {n : Nat} {i j : Int} (i0 : 0 ≤ i) (i1 : i < n) (j0 : 0 ≤ j) (j1 : j < n) : 0 ≤ i * n ∧ i * n + j < (n : Int) * n := by
  refine ⟨Int.mul_nonneg i0 (by omega), ?_⟩
  have h : (i + 1) * (n : Int) ≤ n * n := Int.mul_le_mul_of_nonneg_right (by omega) (by omega)
  rw [Int.add_mul, Int.one_mul] at h
  omega
theorem flat_sq {n : Nat} (hn : (n : Int) ≤ 48) : (n : Int) * n ≤ 2304 := by
  have : (n : Int) * n ≤ 48 * 48 := Int.mul_le_mul hn hn (by omega) (by omega)
  omega
theorem flat_inj {n : Nat} {i j i' j' : Int} (j0 : 0 ≤ j) (j1 : j < n) (j0' : 0 ≤ j') (j1' : j' < n) (h : i * n + j = i' * n + j') : i = i' ∧ j = j' := by
  have key : ∀ a b : Int, a < b → a * (n : Int) + n ≤ b * n := fun a b hab => by
    have h : (a + 1) * (n : Int) ≤ b * n := Int.mul_le_mul_of_nonneg_right (by omega) (by omega)
    rw [Int.add_mul, Int.one_mul] at h
    exact h
  rcases Int.lt_trichotomy i i' with h1 | h1 | h1
  · have := key i i' h1; omega
  · subst h1; exact ⟨rfl, by omega⟩
  · have := key i' i h1; omega
theorem FlatM.set {n : Nat} {d : List Int} {M M' : Int → Int → Int} {i j m v : Int} (h : FlatM n d M) (i0 : 0 ≤ i) (i1 : i < n) (j0 : 0 ≤ j) (j1 : j < n) (hv : v = flatV m) (hM : ∀ x y : Int, 0 ≤ x → 0 ≤ y → M' x y = if x = i ∧ y = j then m else M x y) : FlatM n (d.set (i * n + j).toNat v) M' := by
  refine ⟨by simp [h.len], fun x y x0 x1 y0 y1 => ?_⟩
  have r1 := flat_rng i0 i1 j0 j1
  have r2 := flat_rng x0 x1 y0 y1
  have hl : (d.length : Int) = (n : Int) * n := by rw [h.len]; simp
  rw [hM x y x0 y0]
  unfold el
  rw [List.getD_eq_getElem?_getD]
  by_cases hc : x = i ∧ y = j
  · obtain ⟨rfl, rfl⟩ := hc
    rw [List.getElem?_set_self (by omega), if_pos ⟨rfl, rfl⟩, ← hv]; rfl
  · have hne : (i * n + j).toNat ≠ (x * n + y).toNat := fun e => by
      have := flat_inj (i := i) (i' := x) j0 j1 y0 y1 (by omega)
      exact hc ⟨this.1.symm, this.2.symm⟩
    rw [List.getElem?_set_ne hne, if_neg hc, ← List.getD_eq_getElem?_getD]
    exact h.val x y x0 x1 y0 y1
def updM (M : Int → Int → Int) (i j m : Int) : Int → Int → Int := fun x y => if x = i ∧ y = j then m else M x y
theorem FlatM.rep {n : Nat} {d : List Int} (hl : d.length = n * n) (h : ∀ q : Nat, q < n * n → el d q = 1152921504606846976) : FlatM n d (fun _ _ => -1) := by
  refine ⟨hl, fun i j i0 i1 j0 j1 => ?_⟩
  have r := flat_rng i0 i1 j0 j1
  have e : ((n * n : Nat) : Int) = (n : Int) * n := by simp
  have := h (i * n + j).toNat (by omega)
  rw [show (((i * n + j).toNat : Nat) : Int) = i * n + j by omega] at this
  simpa [flatV] using this
theorem flatV_less {a b : Int} (ha : a = -1 ∨ (0 ≤ a ∧ a ≤ 352800)) (hb : 0 ≤ b) (hb1 : b ≤ 705600) : min (flatV a) b = flatV (lessS a b) := by
  unfold flatV lessS
  rcases ha with rfl | ⟨h1, h2⟩
  · rw [if_pos rfl, if_pos rfl, if_neg (by omega)]; omega
  · rw [if_neg (by omega), if_neg (by omega), if_neg (by omega)]
theorem flatV_lt {a : Int} (ha : a = -1 ∨ (0 ≤ a ∧ a ≤ 352800)) : (flatV a < 1152921504606846976 ↔ a ≠ -1) ∧ (a ≠ -1 → flatV a = a) := by
  unfold flatV
  rcases ha with rfl | ⟨h1, h2⟩
  · simp
  · rw [if_neg (by omega)]; exact ⟨⟨fun _ => by omega, fun _ => by omega⟩, fun _ => rfl⟩
theorem set_upto' {d : List Int} {m k : Nat} {v : Int} (hl : d.length = m) (hk : k < m) (h : ∀ p : Nat, p < k → el d p = v) : ∀ p : Nat, p < k + 1 → el (d.set (k : Int).toNat v) p = v := by
  intro p hp
  unfold el at *
  simp only [Int.toNat_natCast, List.getD_eq_getElem?_getD] at *
  by_cases e : p = k
  · subst e; rw [List.getElem?_set_self (by omega)]; rfl
  · rw [List.getElem?_set_ne (by omega)]; exact h p (by omega)
end Go.Wk
