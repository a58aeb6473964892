/-
  The search of layer 17 as a plain function: the state of a search, one event after the other, the cost of what is fixed.
-/
import Derived.Test.YtclligkngjhihaaPt
namespace Go.Wk
set_option linter.unusedVariables false
set_option linter.unusedSimpArgs false

def later (a : Ac) : Int := max a.fr a.tt
def slk (N : Net) (t : List Int) (a : Ac) : Int := (el t a.tt - el t a.fr - a.mn) % N.p
theorem dur_slk (N : Net) (t : List Int) (a : Ac) : durA N t a = a.mn + slk N t a := rfl
theorem slk_rng {N : Net} {t : List Int} {a : Ac} (h : 2 ≤ N.p) : 0 ≤ slk N t a ∧ slk N t a < N.p := ⟨Int.emod_nonneg _ (by omega), Int.emod_lt_of_pos _ (by omega)⟩

/-- One activity's part of the cost, where the events below 'i' have times. -/
def termC (N : Net) (t : List Int) (i : Int) (a : Ac) : Int := a.wt * a.mn + (if later a < i then a.wt * slk N t a else 0)
def sumC (f : Ac → Int) : List Ac → Int
  | [] => 0
  | a :: r => f a + sumC f r
theorem sumC_snoc (f : Ac → Int) : ∀ (l : List Ac) (a : Ac), sumC f (l ++ [a]) = sumC f l + f a
  | [], a => by simp [sumC]
  | b :: r, a => by rw [List.cons_append, sumC, sumC_snoc f r a, sumC]; omega
theorem sumC_congr {f g : Ac → Int} : ∀ (l : List Ac), (∀ a ∈ l, f a = g a) → sumC f l = sumC g l
  | [], _ => rfl
  | b :: r, h => by rw [sumC, sumC, h b List.mem_cons_self, sumC_congr r (fun a ha => h a (List.mem_cons_of_mem _ ha))]
theorem sumC_bound {f : Ac → Int} {B : Int} : ∀ (l : List Ac), (∀ a ∈ l, -B ≤ f a ∧ f a ≤ B) → -(B * l.length) ≤ sumC f l ∧ sumC f l ≤ B * l.length
  | [], _ => by simp [sumC]
  | b :: r, h => by
    have h1 := h b List.mem_cons_self
    have h2 := sumC_bound r (fun a ha => h a (List.mem_cons_of_mem _ ha))
    rw [sumC, List.length_cons, show B * ((r.length + 1 : Nat) : Int) = B * (r.length : Int) + B by rw [Int.natCast_add, Int.mul_add]; simp]
    omega
def costTo (N : Net) (t : List Int) (i : Int) : Int := sumC (termC N t i) N.acts
theorem prodB {a b A B : Int} (a0 : 0 ≤ a) (a1 : a ≤ A) (b0 : -B ≤ b) (b1 : b ≤ B) : -(A * B) ≤ a * b ∧ a * b ≤ A * B := by
  have hB : 0 ≤ B := by omega
  constructor
  · have h1 : a * (-B) ≤ a * b := Int.mul_le_mul_of_nonneg_left b0 a0
    have h2 : a * B ≤ A * B := Int.mul_le_mul_of_nonneg_right a1 hB
    rw [Int.mul_neg] at h1
    omega
  · have h1 : a * b ≤ a * B := Int.mul_le_mul_of_nonneg_left b1 a0
    have h2 : a * B ≤ A * B := Int.mul_le_mul_of_nonneg_right a1 hB
    omega
theorem term_bound {N : Net} {t : List Int} {i : Int} {a : Ac} (hN : NetOk N) (ha : a ∈ N.acts) : -76300000000 ≤ termC N t i a ∧ termC N t i a ≤ 76300000000 := by
  have ok := hN.acs a ha
  have hs := slk_rng (N := N) (t := t) (a := a) hN.p2
  have h7 := hN.p7
  have h1 := prodB ok.w0 ok.w1 (b := a.mn) (B := 65536) ok.m0 (by have := ok.m1; have := ok.m2; omega)
  have h2 := prodB ok.w0 ok.w1 (b := slk N t a) (B := 7200) (by omega) (by omega)
  unfold termC
  split <;> omega
theorem cost_bound {N : Net} {t : List Int} {i : Int} (hN : NetOk N) : -39065600000000 ≤ costTo N t i ∧ costTo N t i ≤ 39065600000000 := by
  have h := sumC_bound (f := termC N t i) (B := 76300000000) N.acts (fun a ha => term_bound hN ha)
  have hl := hN.ac
  unfold costTo
  have : (76300000000 : Int) * N.acts.length ≤ 39065600000000 := by omega
  omega

/-- The activities that are closed by event 'i', among the first 'k'. -/
def clsTo (N : Net) (k : Nat) (i : Int) : List Int := ((List.range k).filter fun (q : Nat) => decide (later (el N.acts (q : Int)) = i)).map fun (q : Nat) => (q : Int)
theorem cls_step (N : Net) (k : Nat) (i : Int) : clsTo N (k + 1) i = if later (el N.acts (k : Int)) = i then clsTo N k i ++ [(k : Int)] else clsTo N k i := by
  unfold clsTo
  rw [List.range_succ, List.filter_append, List.map_append]
  by_cases h : later (el N.acts (k : Int)) = i
  · simp [h]
  · rw [if_neg h, List.filter_cons_of_neg (by simpa using h)]; simp
theorem cls_mem {N : Net} {k : Nat} {i q : Int} (h : q ∈ clsTo N k i) : 0 ≤ q ∧ q < k ∧ later (el N.acts q) = i := by
  obtain ⟨p, hp, rfl⟩ := List.mem_map.1 h
  obtain ⟨h1, h2⟩ := List.mem_filter.1 hp
  have := List.mem_range.1 h1
  exact ⟨by omega, by omega, by simpa using h2⟩
theorem cls_len (N : Net) (k : Nat) (i : Int) : (clsTo N k i).length ≤ k := by
  unfold clsTo; rw [List.length_map]; exact Nat.le_trans (List.length_filter_le _ _) (by simp)
def cls (N : Net) (i : Int) : List Int := clsTo N N.acts.length i

/-- What the closed activities of a list add. -/
def addS (N : Net) (t : List Int) : List Int → Int
  | [] => 0
  | q :: r => (el N.acts q).wt * slk N t (el N.acts q) + addS N t r
theorem addS_snoc (N : Net) (t : List Int) : ∀ (l : List Int) (q : Int), addS N t (l ++ [q]) = addS N t l + (el N.acts q).wt * slk N t (el N.acts q)
  | [], q => by simp [addS]
  | b :: r, q => by rw [List.cons_append, addS, addS_snoc N t r q, addS]; omega
theorem addS_cls (N : Net) (t : List Int) (i : Int) : ∀ k : Nat, k ≤ N.acts.length → sumC (termC N t (i + 1)) (N.acts.take k) = sumC (termC N t i) (N.acts.take k) + addS N t (clsTo N k i)
  | 0, _ => by simp [sumC, clsTo, addS]
  | k + 1, hk => by
    have ih := addS_cls N t i k (by omega)
    have hk' : (k : Int) < N.acts.length := by omega
    rw [tkS hk', sumC_snoc, sumC_snoc, ih, cls_step]
    unfold termC
    by_cases h : later (el N.acts (k : Int)) = i
    · rw [if_pos h, addS_snoc, if_pos (by omega), if_neg (by omega)]; omega
    · rw [if_neg h]
      by_cases h2 : later (el N.acts (k : Int)) < i
      · rw [if_pos (by omega), if_pos h2]; omega
      · rw [if_neg (by omega), if_neg h2]; omega
theorem cost_next (N : Net) (t : List Int) (i : Int) : costTo N t (i + 1) = costTo N t i + addS N t (cls N i) := by
  have := addS_cls N t i N.acts.length (Nat.le_refl _)
  rw [List.take_length] at this
  exact this
def okA (N : Net) (t : List Int) (q : Int) : Bool := decide (slk N t (el N.acts q) ≤ (el N.acts q).mx - (el N.acts q).mn)
def okAt (N : Net) (t : List Int) (i : Int) : Bool := (cls N i).all (okA N t)

/-! ### The search -/
structure Sr where
  used : Int
  over : Bool
  found : Bool
  best : Int
  res : List Int
  t : List Int

def lpS (f : Int → Sr → Bool × Sr) : Nat → Int → Sr → Bool × Sr
  | 0, _, s => (true, s)
  | c + 1, x, s => match f x s with
    | (true, s') => lpS f c (x + 1) s'
    | (false, s') => (false, s')
def limI (N : Net) (i : Nat) : Int := if fstB (conB N.acts) i = true then 1 else N.p
def skipS (N : Net) (all : Bool) (s : Sr) (i : Nat) : Bool := !okAt N s.t i || (all && s.found && decide (s.best ≤ costTo N s.t ((i : Int) + 1)))
def stepS (i : Nat) (x : Int) (s : Sr) : Sr := { s with used := s.used + 1, t := s.t.set i x }
def bodyS (N : Net) (all : Bool) (B : Int) (i : Nat) (rec : Sr → Bool × Sr) (x : Int) (s : Sr) : Bool × Sr :=
  if s.used = B then (false, { s with over := true })
  else if skipS N all (stepS i x s) i = true then (true, stepS i x s) else rec (stepS i x s)
def leafS (N : Net) (i : Nat) (s : Sr) : Sr := { s with found := true, res := s.t, best := costTo N s.t i }
def srch (N : Net) (all : Bool) (B : Int) : Nat → Nat → Sr → Bool × Sr
  | 0, i, s => (all, leafS N i s)
  | m + 1, i, s => lpS (bodyS N all B i (srch N all B m (i + 1))) (limI N i).toNat 0 s

/-- Entries below 'i' stay. -/
def Agr (i : Nat) (t t' : List Int) : Prop := t'.length = t.length ∧ ∀ j : Int, 0 ≤ j → j < i → el t' j = el t j
theorem Agr.refl (i : Nat) (t : List Int) : Agr i t t := ⟨rfl, fun _ _ _ => rfl⟩
theorem Agr.trans {i : Nat} {a b c : List Int} (h : Agr i a b) (k : Agr i b c) : Agr i a c := ⟨k.1.trans h.1, fun j h0 h1 => (k.2 j h0 h1).trans (h.2 j h0 h1)⟩
theorem Agr.less {i j : Nat} {a b : List Int} (h : Agr i a b) (hj : j ≤ i) : Agr j a b := ⟨h.1, fun q h0 h1 => h.2 q h0 (by omega)⟩
theorem Agr.set (i : Nat) (t : List Int) (x : Int) : Agr i t (t.set i x) := by
  refine ⟨by simp, fun j h0 h1 => ?_⟩
  have := elSetN (l := t) (i := (i : Int)) (j := j) (v := x) (by omega) h0 (by omega)
  simpa using this
theorem lpS_agr {f : Int → Sr → Bool × Sr} {i : Nat} (hf : ∀ x s, Agr i s.t (f x s).2.t) : ∀ (c : Nat) (x : Int) (s : Sr), Agr i s.t (lpS f c x s).2.t
  | 0, x, s => Agr.refl _ _
  | c + 1, x, s => by
    have h := hf x s
    unfold lpS
    generalize f x s = r at h
    obtain ⟨b, s'⟩ := r
    cases b with
    | true => exact h.trans (lpS_agr hf c (x + 1) s')
    | false => exact h
theorem srch_agr {N : Net} {all : Bool} {B : Int} : ∀ (m i : Nat) (s : Sr), Agr i s.t (srch N all B m i s).2.t
  | 0, i, s => Agr.refl _ _
  | m + 1, i, s => by
    unfold srch
    refine lpS_agr (fun x s => ?_) _ _ _
    unfold bodyS
    split
    · exact Agr.refl _ _
    · split
      · exact Agr.set i s.t x
      · exact (Agr.set i s.t x).trans ((srch_agr m (i + 1) (stepS i x s)).less (by omega))

/-- The cost of what is fixed is seen in the entries below alone. -/
theorem cost_agr {N : Net} {t t' : List Int} {i : Nat} (hN : NetOk N) (h : Agr i t t') : costTo N t' i = costTo N t i := by
  unfold costTo
  refine sumC_congr _ fun a ha => ?_
  have ok := hN.acs a ha
  unfold termC
  by_cases hl : later a < i
  · rw [if_pos hl, if_pos hl]
    unfold later at hl
    unfold slk
    rw [h.2 a.tt ok.t0 (by omega), h.2 a.fr ok.f0 (by omega)]
  · rw [if_neg hl, if_neg hl]
/-- All activities among the events below 'i' are satisfied. -/
def OkTo (N : Net) (t : List Int) (i : Nat) : Prop := ∀ a ∈ N.acts, later a < i → slk N t a ≤ a.mx - a.mn
theorem OkTo.agr {N : Net} {t t' : List Int} {i : Nat} (hN : NetOk N) (ho : OkTo N t i) (h : Agr i t t') : OkTo N t' i := by
  intro a ha hl
  have ok := hN.acs a ha
  have := ho a ha hl
  unfold later at hl
  unfold slk at this ⊢
  rw [h.2 a.tt ok.t0 (by omega), h.2 a.fr ok.f0 (by omega)]
  exact this
theorem OkTo.next {N : Net} {t : List Int} {i : Nat} (ho : OkTo N t i) (h : okAt N t i = true) : OkTo N t (i + 1) := by
  intro a ha hl
  by_cases e : later a = i
  · obtain ⟨q, hq, rfl⟩ := List.mem_iff_getElem.1 ha
    have hel : el N.acts (q : Int) = N.acts[q] := by simp [el, hq]
    have hm : (q : Int) ∈ cls N i := by
      unfold cls clsTo
      refine List.mem_map.2 ⟨q, List.mem_filter.2 ⟨List.mem_range.2 hq, by rw [hel]; simpa using e⟩, rfl⟩
    have := List.all_eq_true.1 h _ hm
    unfold okA at this
    rw [hel, decide_eq_true_eq] at this
    exact this
  · exact ho a ha (by omega)
theorem OkTo.zero (N : Net) (t : List Int) (hN : NetOk N) : OkTo N t 0 := fun a ha hl => by
  have ok := hN.acs a ha
  have := ok.f0
  unfold later at hl
  omega
theorem okAt_iff {N : Net} {t : List Int} {i : Nat} (ho : OkTo N t i) : okAt N t i = true ↔ ∀ a ∈ N.acts, later a < i + 1 → slk N t a ≤ a.mx - a.mn := by
  constructor
  · intro h a ha hl; exact ho.next h a ha (by omega)
  · intro h
    unfold okAt
    rw [List.all_eq_true]
    intro q hq
    obtain ⟨h0, h1, h2⟩ := cls_mem hq
    unfold okA
    rw [decide_eq_true_eq]
    exact h _ (el_mem h0 h1) (by omega)

def start0 (n : Nat) : Sr := ⟨0, false, false, 0, [], List.replicate n 0⟩
/-- What 'find' comes to: the times, the cost, the steps, the error. -/
def findS (N : Net) (all : Bool) (B : Int) : Sr := (srch N all B N.evs.length 0 (start0 N.evs.length)).2
def findE (N : Net) (all : Bool) (B : Int) : Int := if netOk N = true then (if 1 ≤ B ∧ B ≤ 1048576 then (if (findS N all B).over = true then 15 else if (findS N all B).found = false then 14 else 0) else 4) else 1
def findT (N : Net) (all : Bool) (B : Int) : List Int := if findE N all B = 0 then (findS N all B).res else []
def findC (N : Net) (all : Bool) (B : Int) : Int := if findE N all B = 0 then (findS N all B).best else 0
def findU (N : Net) (all : Bool) (B : Int) : Int := if findE N all B = 0 ∨ findE N all B = 14 then (findS N all B).used else 0
end Go.Wk
