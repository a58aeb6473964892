/-
  Least slacks of chains: what the three nested loops over a matrix come to (plain mathematics).
-/
import Derived.Test.YtggaekjnpbicnaaMat
namespace Go.Wk
set_option linter.unusedVariables false
set_option linter.unusedSimpArgs false

def slackA (N : Net) (t : List Int) (a : Ac) : Int := (el t a.tt - el t a.fr - a.mn) % N.p
def lessS (a b : Int) : Int := if a = -1 then b else min a b

inductive Chain (N : Net) (t : List Int) : Int → Int → Int → Prop
  | one {a : Ac} (ha : a ∈ N.acts) (hk : a.kd ≠ 5) : Chain N t a.fr a.tt (slackA N t a)
  | snoc {i q : Int} {a : Ac} (h : Chain N t i a.fr q) (ha : a ∈ N.acts) (hk : a.kd ≠ 5) : Chain N t i a.tt (q + slackA N t a)

theorem Chain.trans {N : Net} {t : List Int} {i j k p q : Int} (h1 : Chain N t i j p) (h2 : Chain N t j k q) : Chain N t i k (p + q) := by
  induction h2 with
  | one ha hk => exact .snoc h1 ha hk
  | snoc h ha hk ih => rw [← Int.add_assoc]; exact .snoc (ih h1) ha hk

theorem slack_rng {N : Net} {t : List Int} {a : Ac} (hp : 1 ≤ N.p) : 0 ≤ slackA N t a ∧ slackA N t a < N.p :=
  ⟨Int.emod_nonneg _ (by omega), Int.emod_lt_of_pos _ (by omega)⟩

structure FwOk (N : Net) (t : List Int) (n k : Nat) (B : Int) (M : Int → Int → Int) : Prop where
  snd : ∀ (i j : Int), 0 ≤ i → i < n → 0 ≤ j → j < n → M i j = -1 ∨ (0 ≤ M i j ∧ M i j ≤ B ∧ Chain N t i j (M i j))
  edge : ∀ a ∈ N.acts, a.kd ≠ 5 → M a.fr a.tt ≠ -1 ∧ M a.fr a.tt ≤ slackA N t a
  tri : ∀ (x : Int), 0 ≤ x → x < k → ∀ (i j : Int), 0 ≤ i → i < n → 0 ≤ j → j < n → M i x ≠ -1 → M x j ≠ -1 → M i j ≠ -1 ∧ M i j ≤ M i x + M x j

def rlx (M : Int → Int → Int) (k i j : Int) : Int := if M i k ≠ -1 ∧ M k j ≠ -1 then lessS (M i j) (M i k + M k j) else M i j

section
variable {N : Net} {t : List Int} {n k : Nat} {B : Int} {M : Int → Int → Int}

theorem FwOk.ge (h : FwOk N t n k B M) {i j : Int} (i0 : 0 ≤ i) (i1 : i < n) (j0 : 0 ≤ j) (j1 : j < n) : M i j = -1 ∨ 0 ≤ M i j := by
  rcases h.snd i j i0 i1 j0 j1 with h | h
  · exact .inl h
  · exact .inr h.1

theorem rlx_col (h : FwOk N t n k B M) (hk : k < n) {i : Int} (i0 : 0 ≤ i) (i1 : i < n) : rlx M k i k = M i k := by
  unfold rlx
  split
  · rename_i hc
    have h1 := h.ge (i := k) (j := k) (by omega) (by omega) (by omega) (by omega)
    unfold lessS
    rw [if_neg hc.1]
    omega
  · rfl
theorem rlx_row (h : FwOk N t n k B M) (hk : k < n) {j : Int} (j0 : 0 ≤ j) (j1 : j < n) : rlx M k k j = M k j := by
  unfold rlx
  split
  · rename_i hc
    have h1 := h.ge (i := k) (j := k) (by omega) (by omega) (by omega) (by omega)
    unfold lessS
    rw [if_neg hc.2]
    omega
  · rfl

theorem rlx_le {i j : Int} (h : M i j ≠ -1) (hs : M i k = -1 ∨ M k j = -1 ∨ 0 ≤ M i k + M k j) : rlx M k i j ≠ -1 ∧ rlx M k i j ≤ M i j := by
  unfold rlx
  split
  · rename_i hc
    have : lessS (M i j) (M i k + M k j) = min (M i j) (M i k + M k j) := by unfold lessS; rw [if_neg h]
    rw [this]
    omega
  · exact ⟨h, Int.le_refl _⟩

theorem rlx_sum {i j : Int} (h1 : M i k ≠ -1) (h2 : M k j ≠ -1) (h3 : 0 ≤ M i k) (h4 : 0 ≤ M k j) : rlx M k i j ≠ -1 ∧ rlx M k i j ≤ M i k + M k j := by
  unfold rlx
  rw [if_pos ⟨h1, h2⟩]
  unfold lessS
  split <;> omega

/-- What a relaxed entry is. -/
theorem rlx_cases (i j : Int) : rlx M k i j = M i j ∨ (M i k ≠ -1 ∧ M k j ≠ -1 ∧ rlx M k i j = M i k + M k j) := by
  unfold rlx
  split
  · rename_i hc
    unfold lessS
    split
    · exact .inr ⟨hc.1, hc.2, rfl⟩
    · by_cases h : M i j ≤ M i k + M k j
      · left; omega
      · right; exact ⟨hc.1, hc.2, by omega⟩
  · exact .inl rfl

theorem FwOk.step (h : FwOk N t n k B M) (hk : k < n) (hB : 0 ≤ B) (hN : NetOk N) (hn : N.evs.length = n) : FwOk N t n (k + 1) (2 * B) (rlx M k) := by
  have kr : (0 : Int) ≤ k ∧ (k : Int) < n := by omega
  have nn : ∀ {i j : Int}, 0 ≤ i → i < n → 0 ≤ j → j < n → M i j ≠ -1 → 0 ≤ M i j := fun a b c d e => (h.ge a b c d).resolve_left e
  refine ⟨fun i j i0 i1 j0 j1 => ?_, fun a ha hkd => ?_, fun x x0 x1 i j i0 i1 j0 j1 hx hy => ?_⟩
  · rcases rlx_cases (M := M) (k := k) i j with e | ⟨e1, e2, e⟩
    · rw [e]
      rcases h.snd i j i0 i1 j0 j1 with h' | ⟨h1, h2, h3⟩
      · exact .inl h'
      · exact .inr ⟨h1, by omega, h3⟩
    · rw [e]
      obtain ⟨a1, a2, a3⟩ := (h.snd i k i0 i1 kr.1 kr.2).resolve_left e1
      obtain ⟨b1, b2, b3⟩ := (h.snd k j kr.1 kr.2 j0 j1).resolve_left e2
      exact .inr ⟨by omega, by omega, a3.trans b3⟩
  · obtain ⟨h1, h2⟩ := h.edge a ha hkd
    have ok := hN.acs a ha
    have hl : (N.evs.length : Int) = n := by omega
    have hr := rlx_le (M := M) (k := k) (i := a.fr) (j := a.tt) h1 (by
      by_cases e1 : M a.fr k = -1
      · exact .inl e1
      · by_cases e2 : M k a.tt = -1
        · exact .inr (.inl e2)
        · have := nn ok.f0 (by have := ok.f1; omega) kr.1 kr.2 e1
          have := nn kr.1 kr.2 ok.t0 (by have := ok.t1; omega) e2
          omega)
    exact ⟨hr.1, by omega⟩
  · -- the triangle over x
    have xr : x < n := by omega
    by_cases hxk : x = k
    · subst hxk
      rw [rlx_col h hk i0 i1] at hx ⊢
      rw [rlx_row h hk j0 j1] at hy ⊢
      exact rlx_sum hx hy (nn i0 i1 kr.1 kr.2 hx) (nn kr.1 kr.2 j0 j1 hy)
    · have xlt : x < k := by omega
      -- each side is old, or goes over k
      rcases rlx_cases (M := M) (k := k) i x with ex | ⟨ex1, ex2, ex⟩ <;> rcases rlx_cases (M := M) (k := k) x j with ey | ⟨ey1, ey2, ey⟩
      · rw [ex] at hx; rw [ey] at hy
        rw [ex, ey]
        obtain ⟨h1, h2⟩ := h.tri x x0 xlt i j i0 i1 j0 j1 hx hy
        have hr := rlx_le (M := M) (k := k) (i := i) (j := j) h1 (by
          by_cases e1 : M i k = -1
          · exact .inl e1
          · by_cases e2 : M k j = -1
            · exact .inr (.inl e2)
            · have := nn i0 i1 kr.1 kr.2 e1
              have := nn kr.1 kr.2 j0 j1 e2
              omega)
        exact ⟨hr.1, by omega⟩
      · rw [ex] at hx
        rw [ex, ey]
        -- i -> x old, x -> k -> j
        obtain ⟨h1, h2⟩ := h.tri x x0 xlt i k i0 i1 kr.1 kr.2 hx ey1
        have hr := rlx_sum (M := M) (k := k) (i := i) (j := j) h1 ey2 (nn i0 i1 kr.1 kr.2 h1) (nn kr.1 kr.2 j0 j1 ey2)
        exact ⟨hr.1, by omega⟩
      · rw [ey] at hy
        rw [ex, ey]
        obtain ⟨h1, h2⟩ := h.tri x x0 xlt k j kr.1 kr.2 j0 j1 ex2 hy
        have hr := rlx_sum (M := M) (k := k) (i := i) (j := j) ex1 h1 (nn i0 i1 kr.1 kr.2 ex1) (nn kr.1 kr.2 j0 j1 h1)
        exact ⟨hr.1, by omega⟩
      · rw [ex, ey]
        have q1 := nn kr.1 kr.2 x0 xr ex2
        have q2 := nn x0 xr kr.1 kr.2 ey1
        have hr := rlx_sum (M := M) (k := k) (i := i) (j := j) ex1 ey2 (nn i0 i1 kr.1 kr.2 ex1) (nn kr.1 kr.2 j0 j1 ey2)
        exact ⟨hr.1, by omega⟩

/-- Each entry is the least total of a chain, or -1 if there is none. -/
structure DistOk (N : Net) (t : List Int) (n : Nat) (M : Int → Int → Int) : Prop where
  snd : ∀ (i j : Int), 0 ≤ i → i < n → 0 ≤ j → j < n → M i j = -1 ∨ (0 ≤ M i j ∧ Chain N t i j (M i j))
  least : ∀ (i j q : Int), 0 ≤ i → i < n → Chain N t i j q → M i j ≠ -1 ∧ M i j ≤ q
  big : ∀ (i j : Int), 0 ≤ i → i < n → 0 ≤ j → j < n → M i j ≤ 2026619832316723200

theorem FwOk.dist (h : FwOk N t n n B M) (hN : NetOk N) (hn : N.evs.length = n) (hB : B ≤ 2026619832316723200) : DistOk N t n M := by
  refine ⟨fun i j i0 i1 j0 j1 => ?_, fun i j q i0 i1 hc => ?_, fun i j i0 i1 j0 j1 => ?_⟩
  · rcases h.snd i j i0 i1 j0 j1 with h' | ⟨h1, _, h3⟩
    · exact .inl h'
    · exact .inr ⟨h1, h3⟩
  · induction hc with
    | one ha hk => exact h.edge _ ha hk
    | @snoc i' q' a hc ha hk ih =>
      have ok := hN.acs a ha
      have hl : (N.evs.length : Int) = n := by omega
      obtain ⟨h1, h2⟩ := ih i0 i1
      obtain ⟨h3, h4⟩ := h.edge a ha hk
      have := h.tri a.fr ok.f0 (by have := ok.f1; omega) i' a.tt i0 i1 ok.t0 (by have := ok.t1; omega) h1 h3
      exact ⟨this.1, by omega⟩
  · rcases h.snd i j i0 i1 j0 j1 with h' | ⟨_, h2, _⟩ <;> omega
end

/-! ### The loops -/

/-- After the activities before 'k'. -/
structure EdgeOk (N : Net) (t : List Int) (n k : Nat) (M : Int → Int → Int) : Prop where
  snd : ∀ (i j : Int), 0 ≤ i → i < n → 0 ≤ j → j < n → M i j = -1 ∨ (0 ≤ M i j ∧ M i j ≤ 7200 ∧ Chain N t i j (M i j))
  edge : ∀ a ∈ N.acts.take k, a.kd ≠ 5 → M a.fr a.tt ≠ -1 ∧ M a.fr a.tt ≤ slackA N t a

theorem EdgeOk.fw {N : Net} {t : List Int} {n k : Nat} {M : Int → Int → Int} (h : EdgeOk N t n k M) (hk : N.acts.length ≤ k) : FwOk N t n 0 7200 M :=
  ⟨h.snd, fun a ha => h.edge a (by rw [List.take_of_length_le hk]; exact ha), fun x x0 x1 => by omega⟩

theorem take_mem_succ {k : Nat} {l : List Ac} (hk : (k : Int) < l.length) {a : Ac} (ha : a ∈ l.take (k + 1)) : a ∈ l.take k ∨ a = el l (k : Int) := by
  have hk' : k < l.length := by omega
  rw [List.take_succ_eq_append_getElem hk'] at ha
  have he : el l (k : Int) = l[k] := by simp [el, hk']
  rcases List.mem_append.1 ha with h | h
  · exact .inl h
  · simp at h; right; rw [he]; exact h

theorem EdgeOk.skip {N : Net} {t : List Int} {n k : Nat} {M : Int → Int → Int} (h : EdgeOk N t n k M) (hk : (k : Int) < N.acts.length) (hs : (el N.acts (k : Int)).kd = 5) : EdgeOk N t n (k + 1) M :=
  ⟨h.snd, fun a ha hkd => by
    rcases take_mem_succ hk ha with h1 | h1
    · exact h.edge a h1 hkd
    · subst h1; exact absurd hs hkd⟩

theorem EdgeOk.add {N : Net} {t : List Int} {n k : Nat} {M M' : Int → Int → Int} (h : EdgeOk N t n k M) (hN : NetOk N) (hn : N.evs.length = n) (hk : (k : Int) < N.acts.length) (hs : (el N.acts (k : Int)).kd ≠ 5)
    (hM : ∀ (x y : Int), 0 ≤ x → 0 ≤ y → M' x y = if x = (el N.acts (k : Int)).fr ∧ y = (el N.acts (k : Int)).tt then lessS (M (el N.acts (k : Int)).fr (el N.acts (k : Int)).tt) (slackA N t (el N.acts (k : Int))) else M x y) : EdgeOk N t n (k + 1) M' := by
  generalize ha0 : el N.acts (k : Int) = b at *
  have hb : b ∈ N.acts := by rw [← ha0]; exact el_mem (by omega) hk
  have ok := hN.acs b hb
  have hl : (N.evs.length : Int) = n := by omega
  have sr := slack_rng (N := N) (t := t) (a := b) (by have := hN.p2; omega)
  have p7 := hN.p7
  have hold := h.snd b.fr b.tt ok.f0 (by have := ok.f1; omega) ok.t0 (by have := ok.t1; omega)
  refine ⟨fun i j i0 i1 j0 j1 => ?_, fun a ha hkd => ?_⟩
  · rw [hM i j i0 j0]
    split
    · rename_i hc
      obtain ⟨rfl, rfl⟩ := hc
      unfold lessS
      split
      · exact .inr ⟨by omega, by omega, .one hb hs⟩
      · rename_i hne
        obtain ⟨h1, h2, h3⟩ := hold.resolve_left hne
        right
        by_cases hle : M b.fr b.tt ≤ slackA N t b
        · rw [show min (M b.fr b.tt) (slackA N t b) = M b.fr b.tt by omega]; exact ⟨h1, h2, h3⟩
        · rw [show min (M b.fr b.tt) (slackA N t b) = slackA N t b by omega]; exact ⟨by omega, by omega, .one hb hs⟩
    · exact h.snd i j i0 i1 j0 j1
  · have hmem : a ∈ N.acts := List.mem_of_mem_take ha
    have oka := hN.acs a hmem
    rw [hM a.fr a.tt oka.f0 oka.t0]
    rcases take_mem_succ hk ha with h1 | h1
    · obtain ⟨e1, e2⟩ := h.edge a h1 hkd
      split
      · rename_i hc
        rw [← hc.1, ← hc.2]
        unfold lessS
        rw [if_neg e1]
        have ha0' := (h.snd a.fr a.tt oka.f0 (by have := oka.f1; omega) oka.t0 (by have := oka.t1; omega)).resolve_left e1
        omega
      · exact ⟨e1, e2⟩
    · rw [ha0] at h1; subst h1
      rw [if_pos ⟨rfl, rfl⟩]
      unfold lessS
      split
      · omega
      · rename_i hne
        have := hold.resolve_left hne
        omega

/-- In the middle of phase k: the entries before (i, j) are relaxed. -/
def Mid (n : Nat) (M0 : Int → Int → Int) (k i j : Int) (M : Int → Int → Int) : Prop :=
  ∀ (x y : Int), 0 ≤ x → x < n → 0 ≤ y → y < n → M x y = if x < i ∨ (x = i ∧ y < j) then rlx M0 k x y else M0 x y

theorem Mid.start {n : Nat} {M0 : Int → Int → Int} {k : Int} : Mid n M0 k 0 0 M0 := fun x y x0 _ y0 _ => by rw [if_neg (by omega)]
theorem Mid.wrap {n : Nat} {M0 M : Int → Int → Int} {k i : Int} (h : Mid n M0 k i n M) : Mid n M0 k (i + 1) 0 M := fun x y x0 x1 y0 y1 => by
  rw [h x y x0 x1 y0 y1]
  by_cases hx : x < i
  · rw [if_pos (.inl hx), if_pos (.inl (by omega))]
  · by_cases he : x = i
    · rw [if_pos (.inr ⟨he, y1⟩), if_pos (.inl (by omega))]
    · rw [if_neg (by omega), if_neg (by omega)]
theorem Mid.done {n : Nat} {M0 M : Int → Int → Int} {k : Int} (h : Mid n M0 k n 0 M) : ∀ (x y : Int), 0 ≤ x → x < n → 0 ≤ y → y < n → M x y = rlx M0 k x y := fun x y x0 x1 y0 y1 => by
  rw [h x y x0 x1 y0 y1, if_pos (.inl x1)]

section
variable {N : Net} {t : List Int} {n k : Nat} {B : Int} {M0 M : Int → Int → Int} {i j : Int}
theorem Mid.col (h : Mid n M0 k i j M) (hf : FwOk N t n k B M0) (hk : k < n) (i0 : 0 ≤ i) (i1 : i < n) : M i k = M0 i k := by
  rw [h i k i0 i1 (by omega) (by omega)]
  split
  · exact rlx_col hf hk i0 i1
  · rfl
theorem Mid.row (h : Mid n M0 k i j M) (hf : FwOk N t n k B M0) (hk : k < n) (j0 : 0 ≤ j) (j1 : j < n) : M k j = M0 k j := by
  rw [h k j (by omega) (by omega) j0 j1]
  split
  · exact rlx_row hf hk j0 j1
  · rfl
theorem Mid.here (h : Mid n M0 k i j M) (i0 : 0 ≤ i) (i1 : i < n) (j0 : 0 ≤ j) (j1 : j < n) : M i j = M0 i j := by
  rw [h i j i0 i1 j0 j1, if_neg (by omega)]
theorem Mid.next {M' : Int → Int → Int} (h : Mid n M0 k i j M) (i0 : 0 ≤ i) (_i1 : i < n) (j0 : 0 ≤ j) (_j1 : j < n) (hM : ∀ (x y : Int), 0 ≤ x → 0 ≤ y → M' x y = if x = i ∧ y = j then rlx M0 k i j else M x y) : Mid n M0 k i (j + 1) M' := by
  intro x y x0 x1 y0 y1
  rw [hM x y x0 y0]
  split
  · rename_i hc
    obtain ⟨rfl, rfl⟩ := hc
    rw [if_pos (.inr ⟨rfl, by omega⟩)]
  · rename_i hc
    rw [h x y x0 x1 y0 y1]
    by_cases hb : x < i ∨ (x = i ∧ y < j)
    · rw [if_pos hb, if_pos (by omega)]
    · rw [if_neg hb, if_neg (by omega)]
theorem Mid.same (h : Mid n M0 k i j M) (i0 : 0 ≤ i) (i1 : i < n) (j0 : 0 ≤ j) (j1 : j < n) (hr : rlx M0 k i j = M0 i j) : Mid n M0 k i (j + 1) M :=
  h.next i0 i1 j0 j1 (fun x y x0 y0 => by
    split
    · rename_i hc
      obtain ⟨rfl, rfl⟩ := hc
      rw [hr]; exact h.here i0 i1 j0 j1
    · rfl)
theorem FwOk.congr {M' : Int → Int → Int} (h : FwOk N t n k B M) (hN : NetOk N) (hn : N.evs.length = n) (hk : k ≤ n) (he : ∀ (x y : Int), 0 ≤ x → x < n → 0 ≤ y → y < n → M' x y = M x y) : FwOk N t n k B M' := by
  have hl : (N.evs.length : Int) = n := by omega
  refine ⟨fun a b a0 a1 b0 b1 => by rw [he a b a0 a1 b0 b1]; exact h.snd a b a0 a1 b0 b1, fun a ha hkd => ?_, fun x x0 x1 a b a0 a1 b0 b1 => ?_⟩
  · have ok := hN.acs a ha
    rw [he a.fr a.tt ok.f0 (by have := ok.f1; omega) ok.t0 (by have := ok.t1; omega)]; exact h.edge a ha hkd
  · rw [he a x a0 a1 x0 (by omega), he x b x0 (by omega) b0 b1, he a b a0 a1 b0 b1]; exact h.tri x x0 x1 a b a0 a1 b0 b1
end

theorem pow_bound (k : Nat) (hk : k ≤ 48) : (7200 : Int) * 2 ^ k ≤ 2026619832316723200 := by
  have h : (2 : Int) ^ k ≤ 2 ^ 48 := by
    have h1 : (2 : Nat) ^ k ≤ 2 ^ 48 := Nat.pow_le_pow_right (by decide) hk
    exact_mod_cast h1
  have e : (2 : Int) ^ 48 = 281474976710656 := by decide
  omega

/-! ### Rows that are made one by one -/

def rowsK (D n k : Nat) : List (Option Addr × Nat × Nat) := (List.range n).map fun i => if i < k then (some ⟨D + 1 + i, 0, none⟩, n, n) else (none, 0, 0)
theorem rowsK_len (D n k : Nat) : (rowsK D n k).length = n := by simp [rowsK]
theorem rowsK_zero (D n : Nat) : rowsK D n 0 = List.replicate n (none, 0, 0) := by
  apply List.ext_getElem?
  intro i
  by_cases h : i < n <;> simp [rowsK, h]
theorem rowsK_full (D n : Nat) : rowsK D n n = rowsV D n := by
  unfold rowsK rowsV
  apply List.map_congr_left
  intro i hi
  simp [List.mem_range.1 hi]
theorem rowsK_set (D n k : Nat) (_hk : k < n) : (rowsK D n k).set k (some ⟨D + 1 + k, 0, none⟩, n, n) = rowsK D n (k + 1) := by
  apply List.ext_getElem?
  intro i
  by_cases hi : i < n
  · by_cases hik : i = k
    · subst hik
      simp [rowsK, hi]
    · rw [List.getElem?_set_ne (Ne.symm hik)]
      simp only [rowsK, List.getElem?_map, List.getElem?_range hi, Option.map_some]
      by_cases h1 : i < k
      · rw [if_pos h1, if_pos (by omega)]
      · rw [if_neg h1, if_neg (by omega)]
  · rw [List.getElem?_eq_none (by simp [rowsK]; omega), List.getElem?_eq_none (by simp [rowsK]; omega)]
theorem rowsK_el {D n k : Nat} (hk : k < n) : el (rowsK D n (k + 1)) (k : Int) = (some ⟨D + 1 + k, 0, none⟩, n, n) := by
  simp [el, rowsK, List.getD_eq_getElem?_getD, hk]

structure RowsK (E : TypeId) (D n k : Nat) (w : World) (M : List (List Int)) : Prop where
  len : M.length = k
  rlen : ∀ (i : Nat) (r : List Int), M[i]? = some r → r.length = n
  row : ∀ (i : Nat) (r : List Int), M[i]? = some r → Ow E encI 1 (D + 1 + i) (D + 2 + i) w (some ⟨D + 1 + i, 0, none⟩) n r

theorem RowsK.out {E : TypeId} {D n k : Nat} {w w' : World} {M : List (List Int)} {a b : Nat} (h : RowsK E D n k w M) (ho : Out a b w w') (hs : D + 1 + k ≤ a ∨ b ≤ D + 1 ∨ b ≤ a) : RowsK E D n k w' M := by
  have hl := h.len
  refine ⟨h.len, h.rlen, fun i r hr => (h.row i r hr).out ho ?_⟩
  have hi : i < M.length := (List.getElem?_eq_some_iff.1 hr).1
  simp only [blk_some, hi1_some]; omega
theorem RowsK.ext {E : TypeId} {D n k : Nat} {w w' : World} {M : List (List Int)} (h : RowsK E D n k w M) (ho : Ext w w') : RowsK E D n k w' M := h.out ho (.inr (.inr (Nat.le_refl _)))
theorem RowsK.nil {E : TypeId} {D n : Nat} {w : World} : RowsK E D n 0 w [] := ⟨rfl, fun i r h => by simp at h, fun i r h => by simp at h⟩
theorem RowsK.push {E : TypeId} {D n k : Nat} {w : World} {M : List (List Int)} {x : List Int} (h : RowsK E D n k w M) (hx : Ow E encI 1 (D + 1 + k) (D + 2 + k) w (some ⟨D + 1 + k, 0, none⟩) n x) (hl : x.length = n) : RowsK E D n (k + 1) w (M ++ [x]) := by
  have hk := h.len
  refine ⟨by simp [hk], fun i r hr => ?_, fun i r hr => ?_⟩
  · rcases Nat.lt_or_ge i M.length with hi | hi
    · rw [List.getElem?_append_left hi] at hr; exact h.rlen i r hr
    · have he : i = M.length := by
        have := (List.getElem?_eq_some_iff.1 hr).1
        simp at this; omega
      subst he
      simp at hr; rw [← hr]; exact hl
  · rcases Nat.lt_or_ge i M.length with hi | hi
    · rw [List.getElem?_append_left hi] at hr; exact h.row i r hr
    · have he : i = M.length := by
        have := (List.getElem?_eq_some_iff.1 hr).1
        simp at this; omega
      subst he
      simp at hr; rw [← hr, hk]; exact hx
theorem MatW.made {E E2 : TypeId} {D n c : Nat} {w : World} {M : List (List Int)} (hD : Ow E2 encV 1 D (D + 1) w (some ⟨D, 0, none⟩) c (rowsK D n n)) (h : RowsK E D n n w M) : MatW E D n w M := by
  refine ⟨?_, h.len, h.rlen, h.row⟩
  have := hD.sl
  rw [rowsK_full] at this
  exact this
theorem rep_of {x : List Int} {n k : Nat} (hl : x.length = n) (hk : n ≤ k) (h : ∀ q, q < k → x.getD q 0 = -1) : x = List.replicate n (-1) := by
  apply List.ext_getElem?
  intro i
  by_cases hi : i < n
  · have := h i (by omega)
    rw [List.getD_eq_getElem?_getD, List.getElem?_eq_getElem (by omega)] at this
    rw [List.getElem?_eq_getElem (by omega)]
    simp at this
    simp [hi, this]
  · rw [List.getElem?_eq_none (by omega), List.getElem?_eq_none (by simp; omega)]
theorem set_upto {x : List Int} {n k : Nat} (hl : x.length = n) (hk : k < n) (h : ∀ q, q < k → x.getD q 0 = -1) : ∀ q, q < k + 1 → (x.set (k : Int).toNat (-1)).getD q 0 = -1 := by
  intro q hq
  simp only [Int.toNat_natCast]
  by_cases he : q = k
  · subst he; simp [List.getD_eq_getElem?_getD, hl, hk]
  · have := h q (by omega)
    rw [List.getD_eq_getElem?_getD, List.getElem?_set_ne (Ne.symm he), ← List.getD_eq_getElem?_getD]; exact this
theorem fw_bd {N : Net} {t : List Int} {n k : Nat} {B : Int} {M : Int → Int → Int} (h : FwOk N t n k B M) (hB : B ≤ 2026619832316723200) {i j : Int} (i0 : 0 ≤ i) (i1 : i < n) (j0 : 0 ≤ j) (j1 : j < n) : -1 ≤ M i j ∧ M i j ≤ 2026619832316723200 := by
  rcases h.snd i j i0 i1 j0 j1 with h' | ⟨h1, h2, _⟩ <;> omega
theorem fw_next {N : Net} {t : List Int} {n k i : Nat} {M0 M : Int → Int → Int} (h : FwOk N t n k (7200 * 2 ^ k) M0) (hm : Mid n M0 k i 0 M) (hN : NetOk N) (hn : N.evs.length = n) (hi : i = n) (hk : k < n) : FwOk N t n (k + 1) (7200 * 2 ^ (k + 1)) M := by
  subst hi
  have h0 : (0 : Int) ≤ 7200 * 2 ^ k := Int.mul_nonneg (by decide) (Int.pow_nonneg (by decide))
  have h1 := h.step hk h0 hN hn
  have e : (7200 : Int) * 2 ^ (k + 1) = 2 * (7200 * 2 ^ k) := by rw [Int.pow_succ]; omega
  rw [e]
  exact h1.congr hN hn (by omega) hm.done
theorem mid_wrap {n i j : Nat} {k : Int} {M0 M : Int → Int → Int} (h : Mid n M0 k i j M) (hj : j = n) : Mid n M0 k (i + 1 : Nat) 0 M := by
  subst hj
  exact h.wrap
theorem mat_rep {n : Nat} {i j : Int} (i0 : 0 ≤ i) (i1 : i < n) (j0 : 0 ≤ j) (j1 : j < n) : mat (List.replicate n (List.replicate n (-1))) i j = -1 := by
  have h1 : i.toNat < n := by omega
  have h2 : j.toNat < n := by omega
  simp [mat, el, List.getD_eq_getElem?_getD, h1, h2]
end Go.Wk
