/-
  A search by rounds along a forest: what it has reached, and that it reaches all that is joined.
-/
import Derived.Test.YtclligkngjhihaaCy
namespace Go.Wk
set_option linter.unusedVariables false
set_option linter.unusedSimpArgs false

theorem con_cloK {S : Int → Bool} : ∀ (l : List Ac) (K : Int → Int → Bool), (∀ x y : Int, K x y = true → S x = S y) → (∀ a ∈ l, S a.fr = S a.tt) → ∀ x y : Int, (l.foldl (fun K a => joinK K a.fr a.tt) K) x y = true → S x = S y
  | [], K, hK, _, x, y, h => hK x y h
  | a :: l, K, hK, hl, x, y, h => by
    refine con_cloK l (joinK K a.fr a.tt) (fun x y hj => ?_) (fun b hb => hl b (List.mem_cons_of_mem _ hb)) x y h
    have ha := hl a List.mem_cons_self
    unfold joinK at hj
    simp only [Bool.or_eq_true, Bool.and_eq_true] at hj
    rcases hj with (h1 | ⟨h1, h2⟩) | ⟨h1, h2⟩
    · exact hK x y h1
    · rw [hK x _ h1, hK y _ h2, ha]
    · rw [hK x _ h1, hK y _ h2, ha]
theorem con_clo {S : Int → Bool} (l : List Ac) (h : ∀ a ∈ l, S a.fr = S a.tt) (x y : Int) (hc : conB l x y = true) : S x = S y :=
  con_cloK l _ (fun x y h => by rw [of_decide_eq_true h]) h x y hc

/-- How far the search has come. -/
structure BF (N : Net) (tree : List Int) (src : Int) (V : List Int) (Sn : List Bool) (rk : Int → Nat) (c : Nat) : Prop where
  vl : V.length = N.evs.length
  sl : Sn.length = N.evs.length
  s0 : el Sn src = true
  cnt : c ≤ Sn.count true
  top : ∀ x : Int, 0 ≤ x → x < N.evs.length → el Sn x = true → rk x < c
  par : ∀ x : Int, 0 ≤ x → x < N.evs.length → el Sn x = true → x = src ∨ ∃ y : Int, 0 ≤ y ∧ y < N.evs.length ∧ el Sn y = true ∧ rk y < rk x ∧ el V x ∈ tree ∧
    (((el N.acts (el V x)).fr = y ∧ (el N.acts (el V x)).tt = x) ∨ ((el N.acts (el V x)).fr = x ∧ (el N.acts (el V x)).tt = y))
theorem cnt_set {l : List Bool} {x : Int} (h0 : 0 ≤ x) (h1 : x < l.length) (h : el l x = false) : (l.set x.toNat true).count true = l.count true + 1 := by
  have hx : x.toNat < l.length := by omega
  have e : l[x.toNat] = false := by simpa [el, hx] using h
  rw [List.count_set hx, e]; simp
theorem BF.first {N : Net} {tree : List Int} {src : Int} {V : List Int} (hv : V.length = N.evs.length) (h0 : 0 ≤ src) (h1 : src < N.evs.length) : BF N tree src V ((List.replicate N.evs.length false).set src.toNat true) (fun _ => 0) 1 := by
  have e1 : el ((List.replicate N.evs.length false).set src.toNat true) src = true := elSetS h0 (by simpa using h1)
  refine ⟨hv, by simp, e1, ?_, fun x _ _ _ => by omega, fun x x0 x1 hx => ?_⟩
  · rw [cnt_set h0 (by simpa using h1) (elRep h0 h1)]; omega
  · by_cases e : x = src
    · exact .inl e
    · rw [elSetN h0 x0 e, elRep x0 x1] at hx; cases hx
theorem BF.put {N : Net} {tree : List Int} {src : Int} {V : List Int} {Sn : List Bool} {rk : Int → Nat} {c : Nat} (h : BF N tree src V Sn rk c) {x y t : Int} (x0 : 0 ≤ x) (x1 : x < N.evs.length) (hx : el Sn x = false) (y0 : 0 ≤ y) (y1 : y < N.evs.length) (hy : el Sn y = true) (ht : t ∈ tree)
    (hj : ((el N.acts t).fr = y ∧ (el N.acts t).tt = x) ∨ ((el N.acts t).fr = x ∧ (el N.acts t).tt = y)) : BF N tree src (V.set x.toNat t) (Sn.set x.toNat true) (fun z => if z = x then c else rk z) (c + 1) := by
  have hvl := h.vl
  have hsl := h.sl
  have hyx : y ≠ x := fun e => by rw [e, hx] at hy; cases hy
  have hs : ∀ z : Int, 0 ≤ z → z ≠ x → el (Sn.set x.toNat true) z = el Sn z := fun z z0 e => elSetN x0 z0 e
  have hsx : el (Sn.set x.toNat true) x = true := elSetS x0 (by omega)
  have hsrc : el (Sn.set x.toNat true) src = true := by
    by_cases e : src = x
    · rw [e]; exact hsx
    · have := h.s0
      by_cases hn : 0 ≤ src
      · rw [hs src hn e]; exact this
      · have e2 : src.toNat = 0 := by omega
        unfold el at this ⊢
        rw [e2] at this ⊢
        by_cases e3 : x.toNat = 0
        · rw [e3]
          cases Sn with
          | nil => simp at this
          | cons a r => rfl
        · cases Sn with
          | nil => simp at this
          | cons a r =>
            obtain ⟨m, hm⟩ : ∃ m, x.toNat = m + 1 := ⟨x.toNat - 1, by omega⟩
            rw [hm]; exact this
  refine ⟨by simp [hvl], by simp [hsl], hsrc, ?_, fun z z0 z1 hz => ?_, fun z z0 z1 hz => ?_⟩
  · rw [cnt_set x0 (by omega) hx]; have := h.cnt; omega
  · show (if z = x then c else rk z) < c + 1
    by_cases e : z = x
    · rw [if_pos e]; omega
    · rw [if_neg e]; rw [hs z z0 e] at hz; have := h.top z z0 z1 hz; omega
  · by_cases e : z = x
    · subst e
      refine .inr ⟨y, y0, y1, by rw [hs y y0 hyx]; exact hy, ?_, ?_⟩
      · show (if y = z then c else rk y) < (if z = z then c else rk z)
        rw [if_neg hyx, if_pos rfl]; exact h.top y y0 y1 hy
      · rw [elSetS z0 (by omega)]; exact ⟨ht, hj⟩
    · rw [hs z z0 e] at hz
      rcases h.par z z0 z1 hz with k | ⟨u, u0, u1, k1, k2, k3, k4⟩
      · exact .inl k
      · refine .inr ⟨u, u0, u1, ?_, ?_, ?_⟩
        · by_cases e2 : u = x
          · rw [e2]; exact hsx
          · rw [hs u u0 e2]; exact k1
        · show (if u = x then c else rk u) < (if z = x then c else rk z)
          rw [if_neg e]
          by_cases e2 : u = x
          · rw [e2, hx] at k1; cases k1
          · rw [if_neg e2]; exact k2
        · rw [elSetN x0 z0 e]; exact ⟨k3, k4⟩

def CloAt (N : Net) (Sn : List Bool) (t : Int) : Prop := el Sn (el N.acts t).fr = el Sn (el N.acts t).tt
def Clo (N : Net) (tree : List Int) (Sn : List Bool) : Prop := ∀ q : Nat, q < tree.length → CloAt N Sn (el tree (q : Int))
/-- Within a round that has begun with 'S0'. -/
def Rnd (N : Net) (tree : List Int) (S0 Sn : List Bool) (q : Nat) : Prop := (Sn = S0 ∧ ∀ p : Nat, p < q → CloAt N Sn (el tree (p : Int))) ∨ (¬ Clo N tree S0 ∧ S0.count true < Sn.count true)
theorem Rnd.zero {N : Net} {tree : List Int} {S0 : List Bool} : Rnd N tree S0 S0 0 := .inl ⟨rfl, fun p hp => by omega⟩
theorem Rnd.keep {N : Net} {tree : List Int} {S0 Sn : List Bool} {q : Nat} (h : Rnd N tree S0 Sn q) (hc : CloAt N Sn (el tree (q : Int))) : Rnd N tree S0 Sn (q + 1) := by
  rcases h with ⟨e, h⟩ | h
  · refine .inl ⟨e, fun p hp => ?_⟩
    by_cases e2 : p = q
    · subst e2; exact hc
    · exact h p (by omega)
  · exact .inr h
theorem Rnd.more {N : Net} {tree : List Int} {S0 Sn : List Bool} {q : Nat} {x : Int} (h : Rnd N tree S0 Sn q) (hq : q < tree.length) (hc : ¬ CloAt N Sn (el tree (q : Int))) (h0 : 0 ≤ x) (h1 : x < Sn.length) (hx : el Sn x = false) : Rnd N tree S0 (Sn.set x.toNat true) (q + 1) := by
  have k := cnt_set h0 h1 hx
  rcases h with ⟨rfl, h⟩ | ⟨h1, h2⟩
  · exact .inr ⟨fun hC => hc (hC q hq), by omega⟩
  · exact .inr ⟨h1, by omega⟩
theorem Rnd.done {N : Net} {tree : List Int} {S0 Sn : List Bool} {q r : Nat} (h : Rnd N tree S0 Sn q) (hq : tree.length ≤ q) (hi : Clo N tree S0 ∨ r + 1 ≤ S0.count true) : Clo N tree Sn ∨ r + 1 + 1 ≤ Sn.count true := by
  rcases h with ⟨rfl, h⟩ | ⟨h1, h2⟩
  · exact .inl (fun p hp => h p (by omega))
  · rcases hi with hi | hi
    · exact absurd hi h1
    · exact .inr (by omega)
theorem Clo.all {N : Net} {tree : List Int} {src : Int} {V : List Int} {Sn : List Bool} {rk : Int → Nat} {c r : Nat} (b : BF N tree src V Sn rk c) (h : Clo N tree Sn ∨ r + 1 ≤ Sn.count true) (hr : N.evs.length ≤ r) : Clo N tree Sn := by
  rcases h with h | h
  · exact h
  · have h1 : Sn.count true ≤ Sn.length := List.count_le_length
    have h2 := b.sl
    omega
theorem Clo.reach {N : Net} {tree : List Int} {Sn : List Bool} {x y : Int} (h : Clo N tree Sn) (hc : conB (tree.map (el N.acts)) x y = true) (hx : el Sn x = true) : el Sn y = true := by
  have k := con_clo (S := fun z => el Sn z) (tree.map (el N.acts)) (fun a ha => by
    obtain ⟨t, ht, rfl⟩ := List.mem_map.1 ha
    obtain ⟨i, hi, rfl⟩ := List.getElem_of_mem ht
    have := h i hi
    simpa [CloAt, el, hi] using this) x y hc
  rw [← k]; exact hx

/-- A spanning forest. -/
structure FoA (N : Net) (tree : List Int) (k : Nat) : Prop where
  rng : ∀ q : Nat, q < k → 0 ≤ el tree (q : Int) ∧ el tree (q : Int) < N.acts.length
  asc : ∀ q : Nat, q + 1 < k → el tree (q : Int) < el tree ((q + 1 : Nat) : Int)
  new : ∀ q : Nat, q < k → conB ((tree.take q).map (el N.acts)) (el N.acts (el tree (q : Int))).fr (el N.acts (el tree (q : Int))).tt = false
structure FoOk (N : Net) (tree : List Int) : Prop where
  ok : NetOk N
  a : FoA N tree tree.length
  span : ∀ i : Nat, i < N.acts.length → conB (tree.map (el N.acts)) (el N.acts (i : Int)).fr (el N.acts (i : Int)).tt = true
theorem FoA.zero {N : Net} {tree : List Int} : FoA N tree 0 := ⟨fun q hq => by omega, fun q hq => by omega, fun q hq => by omega⟩
theorem FoA.succ {N : Net} {tree : List Int} {k : Nat} (h : FoA N tree k) (h0 : 0 ≤ el tree (k : Int)) (h1 : el tree (k : Int) < N.acts.length) (h2 : 0 < k → el tree ((k : Int) - 1) < el tree (k : Int)) (h3 : conB ((tree.take k).map (el N.acts)) (el N.acts (el tree (k : Int))).fr (el N.acts (el tree (k : Int))).tt = false) : FoA N tree (k + 1) := by
  refine ⟨fun q hq => ?_, fun q hq => ?_, fun q hq => ?_⟩
  · by_cases e : q = k
    · subst e; exact ⟨h0, h1⟩
    · exact h.rng q (by omega)
  · by_cases e : q + 1 = k
    · subst e
      have := h2 (by omega)
      rwa [show (((q + 1 : Nat) : Int) - 1) = (q : Int) by omega] at this
    · exact h.asc q (by omega)
  · by_cases e : q = k
    · subst e; exact h3
    · exact h.new q (by omega)
theorem FoA.prev {N : Net} {tree : List Int} {k m : Nat} (h : FoA N tree m) (hk : k < m) (h0 : 0 < k) : el tree ((k : Int) - 1) < el tree (k : Int) := by
  have := h.asc (k - 1) (by omega)
  rw [show ((k - 1 + 1 : Nat) : Int) = (k : Int) by omega, show ((k - 1 : Nat) : Int) = (k : Int) - 1 by omega] at this
  exact this
theorem FoOk.mem {N : Net} {tree : List Int} (h : FoOk N tree) : ∀ a ∈ tree, 0 ≤ a ∧ a < N.acts.length := fun a ha => by
  obtain ⟨i, hi, rfl⟩ := List.getElem_of_mem ha
  have := h.a.rng i hi
  simpa [el, hi] using this
theorem tkM {α β : Type} [Inhabited α] {l : List α} {k : Nat} (g : α → β) (hk : (k : Int) < l.length) : (l.take (k + 1)).map g = (l.take k).map g ++ [g (el l (k : Int))] := by rw [tkS hk, List.map_append]; rfl
end Go.Wk
