/-
  What the search finds: the first of the best, the first of all.
-/
import Derived.Test.YtclligkngjhihaaSy
namespace Go.Wk
set_option linter.unusedVariables false
set_option linter.unusedSimpArgs false

structure Cand (N : Net) (c : List Int) : Prop where
  len : c.length = N.evs.length
  rng : ∀ j : Nat, j < N.evs.length → 0 ≤ el c (j : Int) ∧ el c (j : Int) < limI N j
  ok : ∀ a ∈ N.acts, slk N c a ≤ a.mx - a.mn
def Lx (c d : List Int) : Prop := ∃ j : Nat, j < c.length ∧ (∀ q : Nat, q < j → el c (q : Int) = el d (q : Int)) ∧ el c (j : Int) < el d (j : Int)
theorem Lx.irr (c : List Int) : ¬ Lx c c := fun ⟨j, _, _, h⟩ => by omega
def costN (N : Net) (c : List Int) : Int := costTo N c N.evs.length
theorem sumC_le {f g : Ac → Int} : ∀ (l : List Ac), (∀ a ∈ l, f a ≤ g a) → sumC f l ≤ sumC g l
  | [], _ => Int.le_refl _
  | b :: r, h => by
    have h1 := h b List.mem_cons_self
    have h2 := sumC_le r (fun a ha => h a (List.mem_cons_of_mem _ ha))
    rw [sumC, sumC]; omega
theorem cost_mono {N : Net} {t : List Int} {i j : Int} (hN : NetOk N) (h : i ≤ j) : costTo N t i ≤ costTo N t j := by
  refine sumC_le _ fun a ha => ?_
  have ok := hN.acs a ha
  have hs := slk_rng (N := N) (t := t) (a := a) hN.p2
  have hp : 0 ≤ a.wt * slk N t a := Int.mul_nonneg ok.w0 hs.1
  unfold termC
  by_cases h1 : later a < i
  · rw [if_pos h1, if_pos (by omega)]; exact Int.le_refl _
  · rw [if_neg h1]; split <;> omega
theorem Agr.symm {i : Nat} {a b : List Int} (h : Agr i a b) : Agr i b a := ⟨h.1.symm, fun j h0 h1 => (h.2 j h0 h1).symm⟩
theorem Cand.okTo {N : Net} {c : List Int} (h : Cand N c) (i : Nat) : OkTo N c i := fun a ha _ => h.ok a ha
theorem Cand.okAt {N : Net} {c t : List Int} {i : Nat} (hN : NetOk N) (h : Cand N c) (ho : OkTo N t i) (ha : Agr (i + 1) t c) : okAt N t i = true := by
  rw [okAt_iff ho]
  intro a hm hl
  exact (h.okTo (i + 1)).agr hN ha.symm a hm (by omega)

/-! ### The best -/
structure Bst (N : Net) (P : List Int → Prop) (s s' : Sr) : Prop where
  keep : s.found = true → s'.found = true ∧ s'.best ≤ s.best
  bnd : ∀ c, P c → s'.found = true ∧ s'.best ≤ costN N c
  new : (s'.found = s.found ∧ s'.best = s.best ∧ s'.res = s.res) ∨ (s'.found = true ∧ P s'.res ∧ s'.best = costN N s'.res ∧ (∀ c, P c → costN N c = s'.best → ¬ Lx c s'.res) ∧ (s.found = true → s'.best < s.best))
theorem Bst.comb {N : Net} {P Q R : List Int → Prop} {s s1 s2 : Sr} (h1 : Bst N P s s1) (h2 : Bst N Q s1 s2) (hR : ∀ c, R c → P c ∨ Q c) (hP : ∀ c, P c → R c) (hQ : ∀ c, Q c → R c) (hlx : ∀ c d, P c → Q d → ¬ Lx d c) : Bst N R s s2 := by
  refine ⟨fun hf => ?_, fun c hc => ?_, ?_⟩
  · obtain ⟨a1, a2⟩ := h1.keep hf
    obtain ⟨b1, b2⟩ := h2.keep a1
    exact ⟨b1, by omega⟩
  · rcases hR c hc with hc | hc
    · obtain ⟨a1, a2⟩ := h1.bnd c hc
      obtain ⟨b1, b2⟩ := h2.keep a1
      exact ⟨b1, by omega⟩
    · exact h2.bnd c hc
  · rcases h2.new with ⟨e1, e2, e3⟩ | ⟨f1, f2, f3, f4, f5⟩
    · rw [e1, e2, e3]
      rcases h1.new with h | ⟨g1, g2, g3, g4, g5⟩
      · exact .inl h
      · refine .inr ⟨g1, hP _ g2, g3, fun c hc he => ?_, g5⟩
        rcases hR c hc with hc | hc
        · exact g4 c hc he
        · exact hlx _ _ g2 hc
    · refine .inr ⟨f1, hQ _ f2, f3, fun c hc he => ?_, fun hf => ?_⟩
      · rcases hR c hc with hc | hc
        · obtain ⟨a1, a2⟩ := h1.bnd c hc
          have := f5 a1
          omega
        · exact f4 c hc he
      · obtain ⟨a1, a2⟩ := h1.keep hf
        have := f5 a1
        omega
theorem Bst.none {N : Net} {P : List Int → Prop} {s s' : Sr} (hf : s'.found = s.found) (hb : s'.best = s.best) (hr : s'.res = s.res) (h : ∀ c, P c → s.found = true ∧ s.best ≤ costN N c) : Bst N P s s' :=
  ⟨fun h => ⟨hf.trans h, by omega⟩, fun c hc => ⟨hf.trans (h c hc).1, by have := (h c hc).2; omega⟩, .inl ⟨hf, hb, hr⟩⟩
theorem Bst.iff {N : Net} {P Q : List Int → Prop} {s s' : Sr} (h : Bst N P s s') (e : ∀ c, P c ↔ Q c) : Bst N Q s s' := by
  have : P = Q := funext fun c => propext (e c)
  rwa [← this]

/-- The candidates that begin as 't' and have a number in [x, y) at 'i'. -/
def Cd (N : Net) (i : Nat) (t : List Int) (x y : Int) (c : List Int) : Prop := Cand N c ∧ Agr i t c ∧ x ≤ el c (i : Int) ∧ el c (i : Int) < y
theorem Cd.lx {N : Net} {i : Nat} {t c d : List Int} {x y z u : Int} (hc : Cd N i t x y c) (hd : Cd N i t z u d) (h : y ≤ z) : ¬ Lx d c := by
  rintro ⟨j, hj, he, hl⟩
  obtain ⟨_, c2, c3, c4⟩ := hc
  obtain ⟨_, d2, d3, d4⟩ := hd
  by_cases h1 : j < i
  · have a := c2.2 (j : Int) (by omega) (by omega)
    have b := d2.2 (j : Int) (by omega) (by omega)
    omega
  · by_cases h2 : j = i
    · subst h2; omega
    · have := he i (by omega)
      omega

theorem lpS_bst {N : Net} {i : Nat} {t : List Int} {y : Int} {f : Int → Sr → Bool × Sr} (ho : ∀ x s, s.over = true → (f x s).2.over = true) (ha : ∀ x s, Agr i s.t (f x s).2.t)
    (hf : ∀ x s, 0 ≤ x → x < y → Agr i t s.t → (f x s).2.over = false → (f x s).1 = true ∧ Bst N (Cd N i t x (x + 1)) s (f x s).2) :
    ∀ (c : Nat) (x : Int) (s : Sr), 0 ≤ x → x + c ≤ y → Agr i t s.t → (lpS f c x s).2.over = false → (lpS f c x s).1 = true ∧ Bst N (Cd N i t x (x + c)) s (lpS f c x s).2
  | 0, x, s, hx, hy, hs, h => by
    refine ⟨rfl, Bst.none rfl rfl rfl fun c hc => ?_⟩
    obtain ⟨_, _, h1, h2⟩ := hc
    omega
  | c + 1, x, s, hx, hy, hs, h => by
    have k := hf x s hx (by omega) hs
    have ka := ha x s
    unfold lpS at h ⊢
    generalize f x s = r at h k ka
    obtain ⟨b, s'⟩ := r
    cases b with
    | true =>
      simp only at h k ka ⊢
      have hs' : s'.over = false := by
        cases e : s'.over with
        | false => rfl
        | true => rw [lpS_over ho c (x + 1) s' e] at h; cases h
      obtain ⟨_, k2⟩ := k hs'
      obtain ⟨n1, n2⟩ := lpS_bst ho ha hf c (x + 1) s' (by omega) (by omega) (hs.trans ka) h
      refine ⟨n1, k2.comb n2 (fun d hd => ?_) (fun d hd => ?_) (fun d hd => ?_) (fun d e hd he => Cd.lx hd he (Int.le_refl _))⟩
      · obtain ⟨h1, h2, h3, h4⟩ := hd
        by_cases hq : el d (i : Int) < x + 1
        · exact .inl ⟨h1, h2, h3, hq⟩
        · exact .inr ⟨h1, h2, by omega, by omega⟩
      · exact ⟨hd.1, hd.2.1, hd.2.2.1, by have := hd.2.2.2; omega⟩
      · exact ⟨hd.1, hd.2.1, by have := hd.2.2.1; omega, by have := hd.2.2.2; omega⟩
    | false =>
      simp only at h k
      exact absurd (k h).1 (by decide)

/-- The state's times lie in range below 'i'. -/
def Pre (N : Net) (i : Nat) (t : List Int) : Prop := t.length = N.evs.length ∧ ∀ j : Nat, j < i → 0 ≤ el t (j : Int) ∧ el t (j : Int) < limI N j
theorem Pre.agr {N : Net} {i : Nat} {t t' : List Int} (h : Pre N i t) (ha : Agr i t t') : Pre N i t' := ⟨ha.1.trans h.1, fun j hj => by rw [ha.2 (j : Int) (by omega) (by omega)]; exact h.2 j hj⟩
theorem Pre.next {N : Net} {i : Nat} {t : List Int} {x : Int} (h : Pre N i t) (hi : i < N.evs.length) (h0 : 0 ≤ x) (h1 : x < limI N i) : Pre N (i + 1) (t.set i x) := by
  have hl := h.1
  refine ⟨by simpa using hl, fun j hj => ?_⟩
  by_cases e : j = i
  · subst e
    have : el (t.set j x) (j : Int) = x := by
      have := elSetS (l := t) (i := (j : Int)) (v := x) (by omega) (by omega)
      simpa using this
    omega
  · have := (Agr.set i t x).2 (j : Int) (by omega) (by omega)
    rw [this]
    exact h.2 j (by omega)
theorem agr_next {i : Nat} {t0 t c : List Int} {x : Int} (ht : Agr i t0 t) (hi : i < t.length) : Agr (i + 1) (t.set i x) c ↔ Agr i t0 c ∧ x ≤ el c (i : Int) ∧ el c (i : Int) < x + 1 := by
  have es : el (t.set i x) (i : Int) = x := by
    have := elSetS (l := t) (i := (i : Int)) (v := x) (by omega) (by omega)
    simpa using this
  have hs := Agr.set i t x
  constructor
  · intro h
    have := h.2 (i : Int) (by omega) (by omega)
    exact ⟨(ht.trans hs).trans (h.less (by omega)), by omega, by omega⟩
  · rintro ⟨h, h1, h2⟩
    refine ⟨?_, fun j h0 hj => ?_⟩
    · have a := h.1
      have b := ht.1
      simp; omega
    · by_cases e : j = i
      · subst e; omega
      · rw [h.2 j h0 (by omega), hs.2 j h0 (by omega), ht.2 j h0 (by omega)]

theorem srch_bst {N : Net} {B : Int} (hN : NetOk N) : ∀ (m i : Nat) (s : Sr), m + i = N.evs.length → Pre N i s.t → OkTo N s.t i → (s.found = true → costTo N s.t i < s.best) → (srch N true B m i s).2.over = false →
    (srch N true B m i s).1 = true ∧ Bst N (fun c => Cand N c ∧ Agr i s.t c) s (srch N true B m i s).2
  | 0, i, s, hi, hp, hk, hb, h => by
    have hi' : i = N.evs.length := by omega
    subst hi'
    have hl := hp.1
    have hc : Cand N s.t := ⟨hl, hp.2, fun a ha => hk a ha (by
      have ok := hN.acs a ha
      have := ok.f1; have := ok.t1
      unfold later; omega)⟩
    have he : ∀ c, Agr N.evs.length s.t c → c = s.t := fun c hc => extEl hc.1 fun j h0 h1 => hc.2 j h0 (by have := hc.1; omega)
    refine ⟨rfl, fun hf => ⟨rfl, Int.le_of_lt (hb hf)⟩, fun c hc => ⟨rfl, ?_⟩, .inr ⟨rfl, ⟨hc, Agr.refl _ _⟩, rfl, fun c hc _ => ?_, hb⟩⟩
    · rw [he c hc.2]; exact Int.le_refl _
    · rw [he c hc.2]; exact Lx.irr _
  | m + 1, i, s, hi, hp, hk, hb, h => by
    have hl := hp.1
    have ho : ∀ x s, s.over = true → (bodyS N true B i (srch N true B m (i + 1)) x s).2.over = true := fun x s ho => by
      unfold bodyS
      split
      · rfl
      · split
        · exact ho
        · exact srch_over m (i + 1) (stepS i x s) ho
    have ha : ∀ x s, Agr i s.t (bodyS N true B i (srch N true B m (i + 1)) x s).2.t := fun x s => by
      unfold bodyS
      split
      · exact Agr.refl _ _
      · split
        · exact Agr.set i s.t x
        · exact (Agr.set i s.t x).trans ((srch_agr m (i + 1) (stepS i x s)).less (by omega))
    have key := lpS_bst (N := N) (i := i) (t := s.t) (f := bodyS N true B i (srch N true B m (i + 1))) ho ha (y := limI N i) (fun x s1 hx hxl hs hov => ?_) (limI N i).toNat 0 s (Int.le_refl _) (by have : 0 ≤ limI N i := (by unfold limI; have := hN.p2; split <;> omega); omega) (Agr.refl _ _)
    · unfold srch at h ⊢
      obtain ⟨k1, k2⟩ := key h
      refine ⟨k1, k2.iff fun c => ⟨fun hc => ⟨hc.1, hc.2.1⟩, fun hc => ⟨hc.1, hc.2, (hc.1.rng i (by omega)).1, ?_⟩⟩⟩
      have h1 := hc.1.rng i (by omega)
      have : 0 ≤ limI N i := by omega
      omega
    · have h1s := hs.1
      have eqP : ∀ c, (Cand N c ∧ Agr (i + 1) (stepS i x s1).t c) ↔ Cd N i s.t x (x + 1) c := fun c => by
        have := agr_next (t0 := s.t) (t := s1.t) (c := c) (x := x) hs (by omega)
        exact ⟨fun h => ⟨h.1, this.1 h.2⟩, fun h => ⟨h.1, this.2 h.2⟩⟩
      have hoK : OkTo N (stepS i x s1).t i := hk.agr hN (hs.trans (Agr.set i s1.t x))
      have hu : ¬ s1.used = B := fun e => by
        unfold bodyS at hov
        rw [if_pos e] at hov
        cases hov
      unfold bodyS at hov ⊢
      rw [if_neg hu] at hov ⊢
      by_cases hsk : skipS N true (stepS i x s1) i = true
      · rw [if_pos hsk]
        refine ⟨rfl, (Bst.none (s := s1) (s' := stepS i x s1) rfl rfl rfl fun c hc => ?_).iff eqP⟩
        have hok := hc.1.okAt hN hoK hc.2
        unfold skipS at hsk
        rw [hok] at hsk
        simp only [Bool.not_true, Bool.false_or, Bool.true_and, Bool.and_eq_true, decide_eq_true_eq] at hsk
        refine ⟨hsk.1, Int.le_trans hsk.2 ?_⟩
        have e := cost_agr hN hc.2
        have e2 : costTo N (stepS i x s1).t ((i : Int) + 1) = costTo N c ((i + 1 : Nat) : Int) := by rw [e]; rfl
        rw [e2]
        exact cost_mono hN (by omega)
      · rw [if_neg hsk] at hov ⊢
        have hsk' := hsk
        unfold skipS at hsk'
        simp only [Bool.or_eq_true, Bool.not_eq_true', Bool.and_eq_true, decide_eq_true_eq, not_or, Bool.not_eq_false, Bool.true_and] at hsk'
        have k := srch_bst hN m (i + 1) (stepS i x s1) (by omega) ((hp.agr hs).next (by omega) hx hxl) (hoK.next hsk'.1) (fun hf => by
          have := hsk'.2
          have e : costTo N (stepS i x s1).t ((i : Int) + 1) = costTo N (stepS i x s1).t ((i + 1 : Nat) : Int) := rfl
          rw [← e]
          apply Classical.byContradiction
          intro hne
          exact this ⟨hf, by omega⟩) hov
        have k2 : Bst N (fun c => Cand N c ∧ Agr (i + 1) (stepS i x s1).t c) s1 (srch N true B m (i + 1) (stepS i x s1)).2 := ⟨k.2.keep, k.2.bnd, k.2.new⟩
        exact ⟨k.1, k2.iff eqP⟩

/-! ### The first -/
def Fst (P : List Int → Prop) (r : Bool × Sr) : Prop := (r.1 = true ∧ r.2.found = false ∧ ∀ c, ¬ P c) ∨ (r.1 = false ∧ r.2.found = true ∧ P r.2.res ∧ ∀ c, P c → ¬ Lx c r.2.res)
theorem Fst.iff {P Q : List Int → Prop} {r : Bool × Sr} (h : Fst P r) (e : ∀ c, P c ↔ Q c) : Fst Q r := by
  have : P = Q := funext fun c => propext (e c)
  rwa [← this]
theorem lpS_fst {N : Net} {i : Nat} {t : List Int} {y : Int} {f : Int → Sr → Bool × Sr} (ho : ∀ x s, s.over = true → (f x s).2.over = true) (ha : ∀ x s, Agr i s.t (f x s).2.t)
    (hf : ∀ x s, 0 ≤ x → x < y → Agr i t s.t → s.found = false → (f x s).2.over = false → Fst (Cd N i t x (x + 1)) (f x s)) :
    ∀ (c : Nat) (x : Int) (s : Sr), 0 ≤ x → x + c ≤ y → Agr i t s.t → s.found = false → (lpS f c x s).2.over = false → Fst (Cd N i t x (x + c)) (lpS f c x s)
  | 0, x, s, hx, hy, hs, hn, h => by
    refine .inl ⟨rfl, hn, fun c hc => ?_⟩
    obtain ⟨_, _, h1, h2⟩ := hc
    omega
  | c + 1, x, s, hx, hy, hs, hn, h => by
    have k := hf x s hx (by omega) hs hn
    have ka := ha x s
    unfold lpS at h ⊢
    generalize f x s = r at h k ka
    obtain ⟨b, s'⟩ := r
    have sp : ∀ d, Cd N i t x (x + (c + 1 : Nat)) d → Cd N i t x (x + 1) d ∨ Cd N i t (x + 1) (x + 1 + c) d := fun d hd => by
      obtain ⟨h1, h2, h3, h4⟩ := hd
      by_cases hq : el d (i : Int) < x + 1
      · exact .inl ⟨h1, h2, h3, hq⟩
      · exact .inr ⟨h1, h2, by omega, by omega⟩
    cases b with
    | true =>
      simp only at h k ka ⊢
      have hs' : s'.over = false := by
        cases e : s'.over with
        | false => rfl
        | true => rw [lpS_over ho c (x + 1) s' e] at h; cases h
      rcases k hs' with ⟨k1, k2, k3⟩ | ⟨k1, _⟩
      · rcases lpS_fst ho ha hf c (x + 1) s' (by omega) (by omega) (hs.trans ka) k2 h with ⟨n1, n2, n3⟩ | ⟨n1, n2, n3, n4⟩
        · refine .inl ⟨n1, n2, fun d hd => ?_⟩
          rcases sp d hd with q | q
          · exact k3 d q
          · exact n3 d q
        · refine .inr ⟨n1, n2, ⟨n3.1, n3.2.1, by have := n3.2.2.1; omega, by have := n3.2.2.2; omega⟩, fun d hd => ?_⟩
          rcases sp d hd with q | q
          · exact absurd q (k3 d)
          · exact n4 d q
      · cases k1
    | false =>
      simp only at h k ⊢
      rcases k h with ⟨k1, _⟩ | ⟨k1, k2, k3, k4⟩
      · cases k1
      · refine .inr ⟨rfl, k2, ⟨k3.1, k3.2.1, k3.2.2.1, by have := k3.2.2.2; omega⟩, fun d hd => ?_⟩
        rcases sp d hd with q | q
        · exact k4 d q
        · exact Cd.lx k3 q (Int.le_refl _)
theorem srch_fst {N : Net} {B : Int} (hN : NetOk N) : ∀ (m i : Nat) (s : Sr), m + i = N.evs.length → Pre N i s.t → OkTo N s.t i → s.found = false → (srch N false B m i s).2.over = false → Fst (fun c => Cand N c ∧ Agr i s.t c) (srch N false B m i s)
  | 0, i, s, hi, hp, hk, hb, h => by
    have hi' : i = N.evs.length := by omega
    subst hi'
    have hl := hp.1
    have hc : Cand N s.t := ⟨hl, hp.2, fun a ha => hk a ha (by
      have ok := hN.acs a ha
      have := ok.f1; have := ok.t1
      unfold later; omega)⟩
    have he : ∀ c, Agr N.evs.length s.t c → c = s.t := fun c hc => extEl hc.1 fun j h0 h1 => hc.2 j h0 (by have := hc.1; omega)
    refine .inr ⟨rfl, rfl, ⟨hc, Agr.refl _ _⟩, fun c hc => ?_⟩
    rw [he c hc.2]; exact Lx.irr _
  | m + 1, i, s, hi, hp, hk, hb, h => by
    have hl := hp.1
    have ho : ∀ x s, s.over = true → (bodyS N false B i (srch N false B m (i + 1)) x s).2.over = true := fun x s ho => by
      unfold bodyS
      split
      · rfl
      · split
        · exact ho
        · exact srch_over m (i + 1) (stepS i x s) ho
    have ha : ∀ x s, Agr i s.t (bodyS N false B i (srch N false B m (i + 1)) x s).2.t := fun x s => by
      unfold bodyS
      split
      · exact Agr.refl _ _
      · split
        · exact Agr.set i s.t x
        · exact (Agr.set i s.t x).trans ((srch_agr m (i + 1) (stepS i x s)).less (by omega))
    have key := lpS_fst (N := N) (i := i) (t := s.t) (f := bodyS N false B i (srch N false B m (i + 1))) ho ha (y := limI N i) (fun x s1 hx hxl hs hn hov => ?_) (limI N i).toNat 0 s (Int.le_refl _) (by have : 0 ≤ limI N i := (by unfold limI; have := hN.p2; split <;> omega); omega) (Agr.refl _ _) hb
    · unfold srch at h ⊢
      refine (key h).iff fun c => ⟨fun hc => ⟨hc.1, hc.2.1⟩, fun hc => ⟨hc.1, hc.2, (hc.1.rng i (by omega)).1, ?_⟩⟩
      have h1 := hc.1.rng i (by omega)
      have : 0 ≤ limI N i := by omega
      omega
    · have h1s := hs.1
      have eqP : ∀ c, (Cand N c ∧ Agr (i + 1) (stepS i x s1).t c) ↔ Cd N i s.t x (x + 1) c := fun c => by
        have := agr_next (t0 := s.t) (t := s1.t) (c := c) (x := x) hs (by omega)
        exact ⟨fun h => ⟨h.1, this.1 h.2⟩, fun h => ⟨h.1, this.2 h.2⟩⟩
      have hoK : OkTo N (stepS i x s1).t i := hk.agr hN (hs.trans (Agr.set i s1.t x))
      have hu : ¬ s1.used = B := fun e => by
        unfold bodyS at hov
        rw [if_pos e] at hov
        cases hov
      unfold bodyS at hov ⊢
      rw [if_neg hu] at hov ⊢
      by_cases hsk : skipS N false (stepS i x s1) i = true
      · rw [if_pos hsk]
        refine Fst.iff (.inl ⟨rfl, hn, fun c hc => ?_⟩) eqP
        have hok := hc.1.okAt hN hoK hc.2
        unfold skipS at hsk
        rw [hok] at hsk
        simp at hsk
      · rw [if_neg hsk] at hov ⊢
        have hsk' := hsk
        unfold skipS at hsk'
        simp only [Bool.or_eq_true, Bool.not_eq_true', Bool.and_eq_true, decide_eq_true_eq, not_or, Bool.not_eq_false, Bool.false_and] at hsk'
        exact (srch_fst hN m (i + 1) (stepS i x s1) (by omega) ((hp.agr hs).next (by omega) hx hxl) (hoK.next hsk'.1) hn hov).iff eqP

/-! ### Small networks -/
theorem start_pre (N : Net) : Pre N 0 (start0 N.evs.length).t := ⟨by simp [start0], fun j hj => by omega⟩
theorem agr0 {N : Net} {c : List Int} (h : Cand N c) : Agr 0 (start0 N.evs.length).t c := ⟨by simp [start0, h.len], fun j h0 h1 => by omega⟩
theorem small_first {N : Net} (h : SmallNet N) : (findE N false 1048576 = 14 ∧ ∀ c, ¬ Cand N c) ∨ (findE N false 1048576 = 0 ∧ Cand N (findT N false 1048576) ∧ ∀ c, Cand N c → ¬ Lx c (findT N false 1048576)) := by
  have hov := (small_cnt h false (B := 1048576) (by omega)).1
  have k := srch_fst (N := N) (B := 1048576) h.1 N.evs.length 0 (start0 N.evs.length) (by omega) (start_pre N) (OkTo.zero _ _ h.1) rfl hov
  have e := small_err h false
  unfold findS at e
  rcases k with ⟨k1, k2, k3⟩ | ⟨k1, k2, k3, k4⟩
  · rw [k2] at e
    rcases e with e | e
    · exact .inl ⟨e.1, fun c hc => k3 c ⟨hc, agr0 hc⟩⟩
    · cases e.2
  · rw [k2] at e
    rcases e with e | e
    · cases e.2
    · have ht : findT N false 1048576 = (srch N false 1048576 N.evs.length 0 (start0 N.evs.length)).2.res := by unfold findT; rw [if_pos e.1]; rfl
      rw [ht]
      exact .inr ⟨e.1, k3.1, fun c hc => k4 c ⟨hc, agr0 hc⟩⟩
theorem small_best {N : Net} (h : SmallNet N) : (findE N true 1048576 = 14 ∧ ∀ c, ¬ Cand N c) ∨ (findE N true 1048576 = 0 ∧ Cand N (findT N true 1048576) ∧ findC N true 1048576 = costN N (findT N true 1048576) ∧ ∀ c, Cand N c → findC N true 1048576 ≤ costN N c ∧ (costN N c = findC N true 1048576 → ¬ Lx c (findT N true 1048576))) := by
  have hov := (small_cnt h true (B := 1048576) (by omega)).1
  obtain ⟨k0, k⟩ := srch_bst (N := N) (B := 1048576) h.1 N.evs.length 0 (start0 N.evs.length) (by omega) (start_pre N) (OkTo.zero _ _ h.1) (fun hf => by cases hf) hov
  have e := small_err h true
  unfold findS at e
  rcases e with e | e
  · refine .inl ⟨e.1, fun c hc => ?_⟩
    have := (k.bnd c ⟨hc, agr0 hc⟩).1
    rw [e.2] at this
    cases this
  · have ht : findT N true 1048576 = (srch N true 1048576 N.evs.length 0 (start0 N.evs.length)).2.res := by unfold findT; rw [if_pos e.1]; rfl
    have hb : findC N true 1048576 = (srch N true 1048576 N.evs.length 0 (start0 N.evs.length)).2.best := by unfold findC; rw [if_pos e.1]; rfl
    rcases k.new with ⟨n1, _⟩ | ⟨n1, n2, n3, n4, n5⟩
    · rw [e.2] at n1; cases n1
    · rw [ht, hb]
      exact .inr ⟨e.1, n2.1, n3, fun c hc => ⟨(k.bnd c ⟨hc, agr0 hc⟩).2, n4 c ⟨hc, agr0 hc⟩⟩⟩

/-! ### Times that have 0 at the first events -/
structure Rp (N : Net) (R : Int → Int) : Prop where
  uf : ∃ P, UF N.evs.length P R
  tl : Tells N.evs.length R (conB N.acts)
  ed : ∀ a ∈ N.acts, R a.fr = R a.tt
theorem rp_ex {N : Net} (hN : NetOk N) : ∃ R, Rp N R := by
  have key : ∀ k : Nat, k ≤ N.acts.length → ∃ R, (∃ P, UF N.evs.length P R) ∧ Tells N.evs.length R (conB (N.acts.take k)) ∧ ∀ a ∈ N.acts.take k, R a.fr = R a.tt := by
    intro k
    induction k with
    | zero =>
      intro _
      refine ⟨fun x => x, ⟨(List.range N.evs.length).map fun (j : Nat) => (j : Int), UF.start (by simp) fun p hp => by simp [el, hp]⟩, ?_, fun a ha => by simp at ha⟩
      rw [List.take_zero]
      exact Tells.start _
    | succ k ih =>
      intro hk
      obtain ⟨R, ⟨P, hu⟩, ht, he⟩ := ih (by omega)
      have hk' : (k : Int) < N.acts.length := by omega
      have ok := hN.acs _ (el_mem (l := N.acts) (i := (k : Int)) (by omega) hk')
      refine ⟨joinR R (el N.acts (k : Int)).fr (el N.acts (k : Int)).tt, ⟨_, hu.join ok.f0 ok.f1 ok.t0 ok.t1⟩, ?_, fun a ha => ?_⟩
      · rw [tkS hk', conB_snoc]
        exact ht.join ok.f0 ok.f1 ok.t0 ok.t1
      · rw [tkS hk'] at ha
        rcases List.mem_append.1 ha with ha | ha
        · unfold joinR; rw [he a ha]
        · rw [List.mem_singleton.1 ha]
          unfold joinR
          repeat' split
          all_goals omega
  obtain ⟨R, h1, h2, h3⟩ := key N.acts.length (Nat.le_refl _)
  rw [List.take_length] at h2 h3
  exact ⟨R, h1, h2, h3⟩
def anch (N : Net) (R : Int → Int) (x : List Int) : List Int := (List.range N.evs.length).map fun (j : Nat) => (el x (j : Int) - el x (R (j : Int))) % N.p
theorem anch_len (N : Net) (R : Int → Int) (x : List Int) : (anch N R x).length = N.evs.length := by simp [anch]
theorem anch_el {N : Net} {R : Int → Int} {x : List Int} {j : Int} (h0 : 0 ≤ j) (h1 : j < N.evs.length) : el (anch N R x) j = (el x j - el x (R j)) % N.p := by
  obtain ⟨k, rfl⟩ : ∃ k : Nat, j = k := ⟨j.toNat, by omega⟩
  have hk : k < N.evs.length := by omega
  simp [anch, el, hk]
theorem slk_anch {N : Net} {R : Int → Int} {x : List Int} {a : Ac} (ok : AcOk N a) (he : R a.fr = R a.tt) : slk N (anch N R x) a = slk N x a := by
  unfold slk
  rw [anch_el ok.t0 ok.t1, anch_el ok.f0 ok.f1, he]
  have e1 := Int.emod_add_mul_ediv (el x a.tt - el x (R a.tt)) N.p
  have e2 := Int.emod_add_mul_ediv (el x a.fr - el x (R a.tt)) N.p
  have : (el x a.tt - el x (R a.tt)) % N.p - (el x a.fr - el x (R a.tt)) % N.p - a.mn = (el x a.tt - el x a.fr - a.mn) + N.p * ((el x a.fr - el x (R a.tt)) / N.p - (el x a.tt - el x (R a.tt)) / N.p) := by
    rw [Int.mul_sub]; omega
  rw [this, Int.add_mul_emod_self_left]
theorem cost_anch {N : Net} {R : Int → Int} {x : List Int} (hN : NetOk N) (hR : Rp N R) : costN N (anch N R x) = costN N x := by
  unfold costN costTo
  refine sumC_congr _ fun a ha => ?_
  unfold termC
  rw [slk_anch (hN.acs a ha) (hR.ed a ha)]
theorem feas_iff {N : Net} {x : List Int} : feas N x = true ↔ GoodT N x ∧ ∀ a ∈ N.acts, slk N x a ≤ a.mx - a.mn := by
  unfold feas
  rw [Bool.and_eq_true, goodT_iff, List.all_eq_true]
  constructor
  · rintro ⟨h1, h2⟩
    refine ⟨h1, fun a ha => ?_⟩
    have := h2 a ha
    rw [decide_eq_true_eq, dur_slk] at this
    omega
  · rintro ⟨h1, h2⟩
    refine ⟨h1, fun a ha => ?_⟩
    have := h2 a ha
    rw [decide_eq_true_eq, dur_slk]
    omega
theorem anch_cand {N : Net} {R : Int → Int} {x : List Int} (hR : Rp N R) (h : feas N x = true) : Cand N (anch N R x) := by
  obtain ⟨hg, hs⟩ := feas_iff.1 h
  have hp := hg.ok.p2
  obtain ⟨P, hu⟩ := hR.uf
  refine ⟨anch_len N R x, fun j hj => ?_, fun a ha => ?_⟩
  · rw [anch_el (by omega) (by omega)]
    refine ⟨Int.emod_nonneg _ (by omega), ?_⟩
    unfold limI
    by_cases hf : fstB (conB N.acts) j = true
    · rw [if_pos hf, (hu.first hR.tl hj).1 hf, Int.sub_self, Int.zero_emod]; omega
    · rw [if_neg hf]; exact Int.emod_lt_of_pos _ (by omega)
  · rw [slk_anch (hg.ok.acs a ha) (hR.ed a ha)]; exact hs a ha
theorem Cand.good {N : Net} {c : List Int} (hN : NetOk N) (h : Cand N c) : GoodT N c := ⟨hN, h.len, fun x hx => by
  obtain ⟨j, hj, rfl⟩ := List.mem_iff_getElem.1 hx
  have hl := h.len
  have hr := h.rng j (by omega)
  have e : el c (j : Int) = c[j] := by simp [el, hj]
  have hp := hN.p2
  have : limI N j ≤ N.p := by unfold limI; split <;> omega
  rw [e] at hr
  omega⟩
theorem Cand.feas {N : Net} {c : List Int} (hN : NetOk N) (h : Cand N c) : feas N c = true := feas_iff.2 ⟨h.good hN, h.ok⟩
theorem cand_anch {N : Net} {R : Int → Int} {c : List Int} (hN : NetOk N) (hR : Rp N R) (h : Cand N c) : anch N R c = c := by
  obtain ⟨P, hu⟩ := hR.uf
  have hl := h.len
  refine extEl (by rw [anch_len, hl]) fun j h0 h1 => ?_
  rw [anch_len] at h1
  rw [anch_el h0 h1]
  have hr := hu.rng j h0 h1
  have hz : el c (R j) = 0 := by
    have hi := hu.idem j h0 h1
    obtain ⟨q, hq⟩ : ∃ q : Nat, R j = q := ⟨(R j).toNat, by omega⟩
    rw [hq] at hi hr ⊢
    have hf := (hu.first hR.tl (i := q) (by omega)).2 hi
    have := h.rng q (by omega)
    unfold limI at this
    rw [if_pos hf] at this
    omega
  obtain ⟨q, rfl⟩ : ∃ q : Nat, j = q := ⟨j.toNat, by omega⟩
  have h2 := h.rng q (by omega)
  have hp := hN.p2
  have h3 : limI N q ≤ N.p := by unfold limI; split <;> omega
  rw [hz, Int.sub_zero, Int.emod_eq_of_lt h2.1 (by omega)]
/-- What the law on the best asks for. -/
theorem small_opt {N : Net} (h : SmallNet N) (x : List Int) : (findE N true 1048576 = 14 ∧ feas N x = false) ∨ (findE N true 1048576 = 0 ∧ feas N (findT N true 1048576) = true ∧ findC N true 1048576 = costN N (findT N true 1048576) ∧ (feas N x = true → findC N true 1048576 ≤ costN N x)) := by
  obtain ⟨R, hR⟩ := rp_ex h.1
  rcases small_best h with ⟨h1, h2⟩ | ⟨h1, h2, h3, h4⟩
  · refine .inl ⟨h1, ?_⟩
    cases hf : feas N x with
    | false => rfl
    | true => exact absurd (anch_cand hR hf) (h2 _)
  · refine .inr ⟨h1, h2.feas h.1, h3, fun hf => ?_⟩
    rw [← cost_anch h.1 hR]
    exact (h4 _ (anch_cand hR hf)).1
end Go.Wk
