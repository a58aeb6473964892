/-
  Walks of the functions, printed by a program out of the code and the loops' relations.
-/
import Derived.Test.YtclligkngjhihaaWkD
import Derived.Test.YtclligkngjhihaaProg
import Derived.KernelRfl
import Derived.Test.YtclligkngjhihaaH4
namespace Go.Proofs.Ytclligkngjhihaa
open Go.Wk Go.RowKit
set_option linter.unusedVariables false
set_option linter.unusedSimpArgs false
theorem sf_cases {M : Net} {L : Int} (hM : NetOk M) (h0 : 0 ≤ L) (h1 : L ≤ 1048576) (h : sfE M L = 0) : (sfB M L = true ∧ findE M false L = 0) ∨ (sfB M L = false ∧ findE M false L = 14) := by
  have hL : L ≠ 0 := fun e => by unfold sfE at h; rw [if_pos e] at h; omega
  have h15 : findE M false L ≠ 15 := fun e => by unfold sfE at h; rw [if_neg hL, if_pos e] at h; omega
  have hv : findE M false L = 0 ∨ findE M false L = 14 := by
    unfold findE at h15 ⊢
    rw [if_pos (netOk_iff.2 hM), if_pos (by omega)] at h15 ⊢
    by_cases ho : (findS M false L).over = true
    · rw [if_pos ho] at h15; exact absurd rfl h15
    · rw [if_neg ho]; split
      · exact .inr rfl
      · exact .inl rfl
  rcases hv with hv | hv
  · exact .inl ⟨by unfold sfB; simp [h, hv], hv⟩
  · exact .inr ⟨by unfold sfB; simp [hv], hv⟩
theorem sfT_find {M : Net} {L : Int} (h : sfE M L = 0) : sfT M L = findT M false L := by unfold sfT; rw [if_pos h]
theorem mapElU {α : Type} [Inhabited α] (l : List α) : (upTo 0 l.length).map (el l) = l := by
  apply List.ext_getElem
  · simp [upTo]
  · intro i h1 h2
    simp [upTo, el, h2]
theorem subN_all (N : Net) : subN N (setB (List.replicate N.acts.length true)) = N := by
  have e : setB (List.replicate N.acts.length true) = upTo 0 N.acts.length := by
    unfold setB
    rw [List.length_replicate, setTo_true (k := 0) _ (Nat.zero_le _) (fun j _ h => elRep (by omega) (by omega))]
    rfl
  unfold subN
  rw [e, mapElU]
theorem RF.step {N : Net} {B : Int} {k : Nat} {s s' : FS} (hN : NetOk N) (hB : B ≤ 1048576) (hk : k < N.acts.length) (h : RI N B k s) (f : RF N s) (e : stepF N k s = some s') : RF N s' := by
  obtain ⟨h0, rfl⟩ := stepF_some e
  have hs := h.sum
  have hl := h.l0
  have hu0 := h.u0
  have hlen := h.len
  have hl1 := setB_len (s.b.set k false)
  rw [List.length_set] at hl1
  have hr1 : ∀ a ∈ setB (s.b.set k false), 0 ≤ a ∧ a < N.acts.length := fun a ha => by have := setB_mem a ha; rw [List.length_set] at this; omega
  have hM : NetOk (subN N (setB (s.b.set k false))) := sub_okS hN (by omega) hr1
  have ho := h.out hk
  rcases sf_cases hM hl (by omega) h0 with ⟨c1, c2⟩ | ⟨c1, c2⟩
  · rw [if_pos c1, if_pos c1]
    refine ⟨f.inf, fun j hj => ?_⟩
    have hj' : j < s.wit.length + 1 := by simpa using hj
    show feas (subN N (wo (setB s.b) j)) (el (s.wit ++ [_]) (j : Int)) = true
    by_cases ej : j = s.wit.length
    · subst ej
      rw [← ho]
      have : el (s.wit ++ [sfT (subN N (setB (s.b.set k false))) s.left]) (s.wit.length : Int) = sfT (subN N (setB (s.b.set k false))) s.left := by simp [el]
      rw [this, sfT_find h0]
      exact find_fea c2
    · have : el (s.wit ++ [sfT (subN N (setB (s.b.set k false))) s.left]) (j : Int) = el s.wit (j : Int) := by
        have hj2 : j < s.wit.length := by omega
        simp [el, List.getD_eq_getElem?_getD, List.getElem?_append_left hj2]
      rw [this]
      exact f.wit j (by omega)
  · rw [if_neg (by rw [c1]; decide), if_neg (by rw [c1]; decide)]
    refine ⟨find_inf c2, fun j hj => ?_⟩
    have hj' : j < s.wit.length := hj
    show feas (subN N (wo (setB (s.b.set k false)) j)) (el s.wit (j : Int)) = true
    have hwl := wo_len (setB (s.b.set k false)) j
    refine sub_mono hN (fun a ha => ?_) (fun a ha => hr1 a (wo_mem ha)) (by omega) (f.wit j hj')
    rw [ho] at ha
    exact wo_wo hj' ha
theorem run_rf {N : Net} {B : Int} (hN : NetOk N) (h0 : 0 ≤ B) (h1 : B ≤ 1048576) (hI : findE N false B = 14) : ∀ (k : Nat) (s : FS), k ≤ N.acts.length → runTo N B k = some s → RF N s
  | 0, s, _, e => by
    rw [runTo] at e
    rw [← Option.some.inj e]
    exact ⟨fun x => by show feas (subN N (setB (List.replicate N.acts.length true))) x = false; rw [subN_all]; exact find_inf hI x, fun j hj => by simp at hj⟩
  | k + 1, s, hk, e => by
    rw [runTo] at e
    cases hq : runTo N B k with
    | none => rw [hq] at e; cases e
    | some q => rw [hq] at e; exact (run_rf hN h0 h1 hI k q (by omega) hq).step hN h1 (by omega) (run_ri h0 k q (by omega) hq) e
theorem RF.ne {N : Net} {s : FS} (hN : NetOk N) (f : RF N s) : setB s.b ≠ [] := by
  intro e
  have k := f.inf (List.replicate N.evs.length 0)
  rw [e] at k
  have : feas (subN N []) (List.replicate N.evs.length 0) = true := by
    refine feas_iff.2 ⟨⟨sub_okS hN (by simp) (fun a ha => by cases ha), by simp [subN], fun x hx => ?_⟩, fun a ha => by cases ha⟩
    rw [List.eq_of_mem_replicate hx]
    have := hN.p2
    exact ⟨by omega, by show (0 : Int) < N.p; omega⟩
  rw [this] at k; cases k
theorem asc_drop {m : Int} : ∀ (l : List Int) (last last' : Int), last' ≤ last → ascB m last l = true → ascB m last' l = true
  | [], _, _, _, _ => rfl
  | b :: r, last, last', hle, h => by
    simp only [ascB, Bool.and_eq_true, decide_eq_true_eq] at h
    rw [ascB, h.2]; simp; omega
theorem asc_wo {m : Int} : ∀ (l : List Int) (last : Int) (i : Nat), ascB m last l = true → ascB m last (wo l i) = true
  | [], last, i, _ => by simp [wo, ascB]
  | b :: r, last, 0, h => by
    simp only [ascB, Bool.and_eq_true, decide_eq_true_eq] at h
    simp only [wo, List.take_zero, List.nil_append, List.drop_succ_cons, List.drop_zero]
    exact asc_drop r b last (by omega) h.2
  | b :: r, last, i + 1, h => by
    simp only [ascB, Bool.and_eq_true, decide_eq_true_eq] at h
    have := asc_wo r b i h.2
    have e : wo (b :: r) (i + 1) = b :: wo r i := by simp [wo]
    rw [e, ascB, this]; simp; omega
/-- What Find comes to, once it has found a set. -/
structure Least (N : Net) (S : List Int) (W : List (List Int)) : Prop where
  asc : ascB N.acts.length (-1) S = true
  ne : S ≠ []
  len : W.length = S.length
  inf : ∀ x, feas (subN N S) x = false
  wit : ∀ j : Nat, j < S.length → feas (subN N (wo S j)) (el W (j : Int)) = true
  non : ∀ x, feas N x = false
theorem cfE_cases {N : Net} {B : Int} (h : cfE N B = 0) : NetOk N ∧ (1 ≤ B ∧ B ≤ 1048576) ∧ findE N false B = 14 ∧ ∃ s, runTo N B N.acts.length = some s ∧ cfS N B = setB s.b ∧ cfW N B = s.wit ∧ cfU N B = s.used := by
  have h' := h
  unfold cfE at h'
  by_cases h1 : netOk N = true
  · rw [if_pos h1] at h'
    by_cases h2 : 1 ≤ B ∧ B ≤ 1048576
    · rw [if_pos h2] at h'
      by_cases h3 : sfE N B = 0
      · rw [if_pos h3] at h'
        by_cases h4 : sfB N B = true
        · rw [if_pos h4] at h'; omega
        · rw [if_neg h4] at h'
          have hN := netOk_iff.1 h1
          cases hr : runTo N B N.acts.length with
          | none => rw [hr] at h'; simp at h'
          | some s =>
            refine ⟨hN, h2, ?_, s, rfl, ?_, ?_, ?_⟩
            · rcases sf_cases hN (by omega) h2.2 h3 with q | q
              · exact absurd q.1 h4
              · exact q.2
            · unfold cfS; rw [if_pos h, hr]
            · unfold cfW; rw [if_pos h, hr]
            · unfold cfU; rw [if_pos h, hr]
      · rw [if_neg h3] at h'; omega
    · rw [if_neg h2] at h'; omega
  · rw [if_neg h1] at h'; omega
theorem cf_least {N : Net} {B : Int} (h : cfE N B = 0) : Least N (cfS N B) (cfW N B) := by
  obtain ⟨hN, hB, hI, s, hs, e1, e2, e3⟩ := cfE_cases h
  rw [e1, e2]
  have hri := run_ri (by omega) _ s (Nat.le_refl _) hs
  have hrf := run_rf hN (by omega) hB.2 hI _ s (Nat.le_refl _) hs
  have hl := hri.lenS (Nat.le_refl _)
  refine ⟨?_, hrf.ne hN, by omega, hrf.inf, fun j hj => hrf.wit j (by omega), find_inf hI⟩
  unfold setB; rw [hri.len]; exact setTo_asc _ _
theorem cfE_err {N : Net} {B : Int} (h : NetOk N) (hB : 1 ≤ B ∧ B ≤ 1048576) : cfE N B = 0 ∨ cfE N B = 6 ∨ cfE N B = 15 := by
  unfold cfE
  rw [if_pos (netOk_iff.2 h), if_pos hB]
  repeat' split
  all_goals simp
end Go.Proofs.Ytclligkngjhihaa
