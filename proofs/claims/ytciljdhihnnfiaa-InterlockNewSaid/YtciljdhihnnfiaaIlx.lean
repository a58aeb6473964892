/-
  One resource of the interlocking that a train holds: grants, refusals, reports and releases.
-/
import Derived.Test.YtciljdhihnnfiaaIlk
namespace Go.Wk
set_option linter.unusedVariables false
set_option linter.unusedSimpArgs false

theorem newGo_cons {n : Int} {pre r : List Fk} {f : Fk} (h : newGo n pre (f :: r) = 0) : fkE n pre f = 0 ∧ newGo n (pre ++ [f]) r = 0 := by
  unfold newGo at h
  split at h
  · rename_i he; exact ⟨he, h⟩
  · rename_i he; exact absurd h he
theorem fkE_zero {n : Int} {pre : List Fk} {f : Fk} (h : fkE n pre f = 0) : f.rs ≠ f.pt ∧ pre.any (sameFk f) = false := by
  unfold fkE at h
  split at h
  · cases h
  · split at h
    · cases h
    · rename_i h2
      split at h
      · cases h
      · rename_i h3; exact ⟨h2, by simpa using h3⟩
theorem newGo_app {n : Int} : ∀ (r pre : List Fk) (f : Fk), newGo n pre r = 0 → fkE n (pre ++ r) f = 0 → newGo n pre (r ++ [f]) = 0
  | [], pre, f, _, h => by rw [List.append_nil] at h; simp [newGo, h]
  | g :: r, pre, f, h0, h => by
    obtain ⟨h1, h2⟩ := newGo_cons h0
    rw [List.cons_append, newGo, if_pos h1]
    exact newGo_app r _ f h2 (by rw [List.append_assoc]; exact h)

/-- Only resource 'k' may be held, by 'h'; its report is 'r', and it is not closed. -/
structure OneSt (fl : List Fk) (n : Nat) (k h r : Int) (S : IS) : Prop where
  fl : S.fl = fl
  len : S.rs.length = n
  k0 : 0 ≤ k
  k1 : k < n
  here : (el S.rs k).ho = h ∧ (el S.rs k).re = r ∧ (el S.rs k).cl = false
  else_ : ∀ i : Int, 0 ≤ i → i < n → i ≠ k → (el S.rs i).ho = -1

section
variable {fl : List Fk} {n : Nat} {k h r t u : Int} {S : IS}

theorem one_bad (h0 : 0 ≤ k) (h1 : k < n) : [(⟨k, -1⟩ : Lk)].any (lkBad n) = false := by
  simp [lkBad, h0, h1]
theorem one_rep : ¬ ([(⟨k, -1⟩ : Lk)] = [] ∨ repGo [(⟨k, -1⟩ : Lk)] (fun _ => false) = true) := by
  simp [repGo]
theorem one_mvs : mvs S ⟨k, -1⟩ = false := by simp [mvs]
theorem one_nw : nw S [⟨k, -1⟩] = upd (fun _ => false) k (decide ((el S.rs k).ho = -1)) := rfl
theorem one_wan : wan S [⟨k, -1⟩] = upd (fun _ => -1) k (el S.rs k).po := rfl

theorem free_flk (hS : IsOk S) (hf : ∀ i : Int, 0 ≤ i → i < S.rs.length → (el S.rs i).ho = -1) (q : Int) : ¬ 0 < flk S q := by
  have : S.fl.countP (fun f => decide (f.pt = q) && held S f) = 0 := by
    rw [List.countP_eq_zero]
    intro f hf'
    have hr := hS.fl.ok f hf'
    simp [held, hf f.rs hr.1 hr.2.1]
  unfold flk
  rw [this]
  decide

theorem fkGo_free (hS : IsOk S) (hf : ∀ i : Int, 0 ≤ i → i < S.rs.length → (el S.rs i).ho = -1) {B : Int → Bool} (hB : ∀ x, B x = true → x = k) :
    ∀ (r pre : List Fk) (W : Int → Int), newGo S.rs.length pre r = 0 → (∀ f ∈ r, f ∈ S.fl) → (∀ p, W p ≠ -1 → p = k ∨ ∃ g ∈ pre, g.rs = k ∧ g.pt = p) → fkGo S B r W = 0
  | [], _, _, _, _, _ => rfl
  | f :: r, pre, W, hn, hm, hW => by
    obtain ⟨h1, h2⟩ := newGo_cons hn
    obtain ⟨h3, h4⟩ := fkE_zero h1
    have hr := hS.fl.ok f (hm f List.mem_cons_self)
    have hm' : ∀ g ∈ r, g ∈ S.fl := fun g hg => hm g (List.mem_cons_of_mem _ hg)
    have hW' : ∀ p, W p ≠ -1 → p = k ∨ ∃ g ∈ pre ++ [f], g.rs = k ∧ g.pt = p := fun p hp => by
      rcases hW p hp with e | ⟨g, hg, e⟩
      · exact .inl e
      · exact .inr ⟨g, List.mem_append_left _ hg, e⟩
    unfold fkGo
    cases hb : B f.rs with
    | false => rw [if_pos rfl]; exact fkGo_free hS hf hB r (pre ++ [f]) W h2 hm' hW'
    | true =>
      have hk := hB _ hb
      have hj : jam S f = false := by
        unfold jam
        rw [decide_eq_false_iff_not]
        rintro ⟨_, h5 | h5⟩
        · exact h5 (hf _ hr.2.2.1 hr.2.2.2.1)
        · exact free_flk hS hf _ h5
      have hc : clash W f = false := by
        unfold clash
        rw [decide_eq_false_iff_not]
        rintro ⟨h5, _⟩
        rcases hW f.pt (by omega) with e | ⟨g, hg, e1, e2⟩
        · exact h3 (hk.trans e.symm)
        · rw [← Bool.not_eq_true, List.any_eq_true] at h4
          exact h4 ⟨g, hg, by simp [sameFk, e1, e2, hk]⟩
      rw [if_neg (by decide), hc, if_neg (by decide), hj, if_neg (by decide)]
      refine fkGo_free hS hf hB r (pre ++ [f]) _ h2 hm' fun p hp => ?_
      by_cases e : p = f.pt
      · exact .inr ⟨f, by simp, hk, e.symm⟩
      · rw [upd_ne _ _ e] at hp; exact hW' p hp

theorem fkGo_none {B : Int → Bool} (hB : ∀ x, B x = false) : ∀ (r : List Fk) (W : Int → Int), fkGo S B r W = 0
  | [], _ => rfl
  | f :: r, W => by unfold fkGo; rw [hB, if_pos rfl]; exact fkGo_none hB r W

theorem OneSt.after (h1 : OneSt fl n k h r S) (ht : 0 ≤ t) : OneSt fl n k t r ⟨grantR S t [⟨k, -1⟩], S.fl⟩ := by
  have hl := h1.len
  have e := grantR_el (S := S) (t := t) (l := [⟨k, -1⟩]) h1.k0 (by rw [hl]; exact h1.k1)
  refine ⟨h1.fl, by rw [grantR_len]; exact hl, h1.k0, h1.k1, ?_, fun i i0 i1 hne => ?_⟩
  · dsimp only
    rw [e]
    exact ⟨by simp [grRs], by simp [grRs, h1.here.2.1], by simp [grRs, h1.here.2.2]⟩
  · dsimp only
    rw [grantR_el i0 (by rw [hl]; exact i1)]
    have hne' : ¬ k = i := fun q => hne q.symm
    simp [grRs, hne', h1.else_ i i0 i1 hne]

theorem OneSt.grantFree (h1 : OneSt fl n k (-1) 0 S) (hS : IsOk S) (hn : newGo n [] fl = 0) (ht : 0 ≤ t ∧ t < 10) : grantE S t [⟨k, -1⟩] = 0 ∧ OneSt fl n k t 0 (grantS S t [⟨k, -1⟩]) := by
  have hl := h1.len
  have hz : lkE S t ⟨k, -1⟩ = 0 := by
    unfold lkE
    rw [one_mvs]
    simp only [h1.here.1, h1.here.2.1, h1.here.2.2]
    rw [if_neg (by omega)]
    simp
  have hlz : lksE S t [⟨k, -1⟩] = 0 := by unfold lksE; rw [if_pos hz]; rfl
  have hfr : ∀ i : Int, 0 ≤ i → i < S.rs.length → (el S.rs i).ho = -1 := fun i i0 i1 => by
    by_cases e : i = k
    · subst e; exact h1.here.1
    · exact h1.else_ i i0 (by rw [← hl]; exact i1) e
  have he : grantE S t [⟨k, -1⟩] = 0 := by
    rw [grE5 ht (by rw [hl]; exact one_bad h1.k0 h1.k1) one_rep hlz]
    refine fkGo_free hS hfr (k := k) (fun x hx => ?_) S.fl [] _ (by rw [hl, h1.fl]; exact hn) (fun f hf => hf) (fun p hp => ?_)
    · rw [one_nw] at hx
      unfold upd at hx
      split at hx
      · assumption
      · cases hx
    · rw [one_wan] at hp
      unfold upd at hp
      split at hp
      · left; assumption
      · exact absurd rfl hp
  exact ⟨he, by rw [grS_ok he]; exact h1.after ht.1⟩

theorem OneSt.grantOwn (h1 : OneSt fl n k t r S) (ht : 0 ≤ t ∧ t < 10) : grantE S t [⟨k, -1⟩] = 0 ∧ OneSt fl n k t r (grantS S t [⟨k, -1⟩]) := by
  have hl := h1.len
  have hz : lkE S t ⟨k, -1⟩ = 0 := by
    unfold lkE
    rw [one_mvs, if_pos h1.here.1]
    simp
  have hlz : lksE S t [⟨k, -1⟩] = 0 := by unfold lksE; rw [if_pos hz]; rfl
  have he : grantE S t [⟨k, -1⟩] = 0 := by
    rw [grE5 ht (by rw [hl]; exact one_bad h1.k0 h1.k1) one_rep hlz]
    refine fkGo_none (fun x => ?_) _ _
    rw [one_nw]
    unfold upd
    split
    · rw [h1.here.1]; simp; omega
    · rfl
  exact ⟨he, by rw [grS_ok he]; exact h1.after ht.1⟩

theorem OneSt.grantHeld (h1 : OneSt fl n k t r S) (ht : 0 ≤ t) (hu : 0 ≤ u ∧ u < 10) (hne : u ≠ t) : grantE S u [⟨k, -1⟩] = 17 ∧ grantS S u [⟨k, -1⟩] = S := by
  have hl := h1.len
  have hz : lkE S u ⟨k, -1⟩ = 17 := by
    unfold lkE
    simp only [h1.here.1]
    rw [if_neg (by omega), if_pos (by omega)]
  have hlz : lksE S u [⟨k, -1⟩] = 17 := by unfold lksE; rw [if_neg (by rw [hz]; decide)]; exact hz
  have he : grantE S u [⟨k, -1⟩] = 17 := by
    rw [grE4 hu (by rw [hl]; exact one_bad h1.k0 h1.k1) one_rep (by rw [hlz]; decide)]
    exact hlz
  exact ⟨he, grS_err (by rw [he]; decide)⟩

theorem OneSt.isR (h1 : OneSt fl n k h r S) : Go.Wk.isR S k = true := isR_iff.2 ⟨h1.k0, by rw [h1.len]; exact h1.k1⟩

theorem OneSt.set (h1 : OneSt fl n k h r S) {v : Rs} {h' r' : Int} (e1 : v.ho = h') (e2 : v.re = r') (e3 : v.cl = false) : OneSt fl n k h' r' ⟨S.rs.set k.toNat v, S.fl⟩ := by
  have hl := h1.len
  have hk := h1.k1
  refine ⟨h1.fl, by simpa using hl, h1.k0, h1.k1, ?_, fun i i0 i1 hne => ?_⟩
  · dsimp only
    rw [el_set_same h1.k0 (by omega)]; exact ⟨e1, e2, e3⟩
  · dsimp only
    rw [el_set_ne h1.k0 i0 hne]; exact h1.else_ i i0 i1 hne

theorem OneSt.rep (h1 : OneSt fl n k h r S) {v : Int} (hv : 0 ≤ v ∧ v ≤ 2) : OneSt fl n k h v (repS S k v) := by
  unfold repS
  rw [if_pos (by simp [repB, h1.isR, hv])]
  exact h1.set h1.here.1 rfl h1.here.2.2

theorem OneSt.freeHeld (h1 : OneSt fl n k t r S) (hu : 0 ≤ u ∧ u < 10) (hne : u ≠ t) : freeE S u k = 17 ∧ freeS S u k = S := by
  have he : freeE S u k = 17 := by
    unfold freeE
    rw [if_pos ⟨by simp [okT, hu], h1.isR⟩, if_pos (by rw [h1.here.1]; omega)]
  exact ⟨he, by unfold freeS; rw [if_neg (by rw [he]; decide)]⟩
theorem OneSt.freeBusy (h1 : OneSt fl n k t r S) (ht : 0 ≤ t ∧ t < 10) (hr : r ≠ 0) : freeE S t k = 16 ∧ freeS S t k = S := by
  have he : freeE S t k = 16 := by
    unfold freeE
    rw [if_pos ⟨by simp [okT, ht], h1.isR⟩, if_neg (by rw [h1.here.1]; simp), if_pos (by rw [h1.here.2.1]; exact hr)]
  exact ⟨he, by unfold freeS; rw [if_neg (by rw [he]; decide)]⟩
theorem OneSt.freeOk (h1 : OneSt fl n k t 0 S) (ht : 0 ≤ t ∧ t < 10) : freeE S t k = 0 ∧ OneSt fl n k (-1) 0 (freeS S t k) := by
  have he : freeE S t k = 0 := by
    unfold freeE
    rw [if_pos ⟨by simp [okT, ht], h1.isR⟩, if_neg (by rw [h1.here.1]; simp), if_neg (by rw [h1.here.2.1]; simp)]
  refine ⟨he, ?_⟩
  unfold freeS
  rw [if_pos he]
  exact h1.set rfl h1.here.2.1 h1.here.2.2

theorem OneSt.heldAll (h1 : OneSt fl n k u r S) (hu : 0 ≤ u ∧ u < 10) : ∀ m : Nat, m ≤ n → heldBy S u m = if k < m then [k] else []
  | 0, _ => by rw [if_neg (by have := h1.k0; omega)]; simp [heldBy]
  | m + 1, hm => by
    rw [held_step, h1.heldAll hu m (by omega)]
    have k0 := h1.k0
    by_cases e : (m : Int) = k
    · rw [if_neg (by omega), if_pos (by rw [e]; exact ⟨hu.1, hu.2, h1.here.1⟩), if_pos (by omega), e]; rfl
    · have := h1.else_ m (by omega) (by omega) e
      rw [if_neg (show ¬ (0 ≤ u ∧ u < 10 ∧ (el S.rs (m : Int)).ho = u) by rw [this]; omega), List.append_nil]
      by_cases e2 : k < (m : Int)
      · rw [if_pos e2, if_pos (by omega)]
      · rw [if_neg e2, if_neg (by omega)]
theorem OneSt.held (h1 : OneSt fl n k u r S) (hu : 0 ≤ u ∧ u < 10) : heldBy S u S.rs.length = [k] := by
  rw [h1.len, h1.heldAll hu n (Nat.le_refl _), if_pos h1.k1]
theorem OneSt.holder (h1 : OneSt fl n k h r S) : Go.Wk.holder S k = h := by unfold Go.Wk.holder; rw [if_pos h1.isR]; exact h1.here.1
theorem OneSt.start (h0 : 0 ≤ k) (h1 : k < n) : OneSt fl n k (-1) 0 (initS n fl) := by
  have e : ∀ i : Int, 0 ≤ i → i < n → el (initS n fl).rs i = ⟨-1, 0, 0, false⟩ := fun i i0 i1 => el_rep i0 i1
  refine ⟨rfl, by simp [initS], h0, h1, ?_, fun i i0 i1 _ => ?_⟩
  · rw [e k h0 h1]; exact ⟨rfl, rfl, rfl⟩
  · rw [e i i0 i1]
end

/-- Flanks as the statements make them: one flank for each resource below 'r' at most. -/
structure MadeFl (r : Int) (fl : List Fk) : Prop where
  go : newGo 6 [] fl = 0
  low : ∀ g ∈ fl, g.rs < r
  len : (fl.length : Int) ≤ r
theorem MadeFl.start : MadeFl 0 [] := ⟨rfl, (fun g hg => by cases hg), by simp⟩
theorem MadeFl.skip {r : Int} {fl : List Fk} (h : MadeFl r fl) : MadeFl (r + 1) fl := ⟨h.go, (fun g hg => by have := h.low g hg; omega), by have := h.len; omega⟩
theorem MadeFl.add {r p x : Int} {fl : List Fk} (h : MadeFl r fl) (h0 : 0 ≤ r) (h1 : r < 5) (p0 : 3 ≤ p) (p1 : p < 6) (hne : p ≠ r) (x0 : 0 ≤ x) (x1 : x < 2) : MadeFl (r + 1) (fl ++ [⟨r, p, x⟩]) := by
  refine ⟨newGo_app fl [] _ h.go ?_, fun g hg => ?_, by have := h.len; simp; omega⟩
  · unfold fkE
    rw [if_neg (by simp [fkBad]; omega), if_neg (fun e => hne e.symm), if_neg]
    rw [List.any_eq_true]
    rintro ⟨g, hg, e⟩
    simp only [List.nil_append] at hg
    simp only [sameFk, decide_eq_true_eq] at e
    have := h.low g hg
    omega
  · rcases List.mem_append.1 hg with hg | hg
    · have := h.low g hg; omega
    · simp at hg; subst hg; show r < r + 1; omega
theorem MadeFl.new {fl : List Fk} (h : MadeFl 5 fl) : newE 6 fl = 0 := by
  unfold newE
  rw [if_pos (by decide), if_neg (by have := h.len; omega)]
  exact h.go
end Go.Wk
