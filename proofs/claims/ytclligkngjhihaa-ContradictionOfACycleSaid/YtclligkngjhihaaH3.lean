/-
  Walks of the functions, printed by a program out of the code and the loops' relations.
-/
import Derived.Test.YtclligkngjhihaaWkD
import Derived.Test.YtclligkngjhihaaProg
import Derived.KernelRfl
import Derived.Test.YtclligkngjhihaaH2
namespace Go.Proofs.Ytclligkngjhihaa
open Go.Wk Go.RowKit
set_option linter.unusedVariables false
set_option linter.unusedSimpArgs false
theorem findE_cases {N : Net} {all : Bool} {B : Int} (h : findE N all B = 14 ∨ findE N all B = 0) : NetOk N ∧ (findS N all B).over = false ∧ ((findS N all B).found = true ↔ findE N all B = 0) := by
  unfold findE at h ⊢
  by_cases h1 : netOk N = true
  · rw [if_pos h1] at h ⊢
    by_cases h2 : 1 ≤ B ∧ B ≤ 1048576
    · rw [if_pos h2] at h ⊢
      by_cases h3 : (findS N all B).over = true
      · rw [if_pos h3] at h; omega
      · rw [if_neg h3] at h ⊢
        refine ⟨netOk_iff.1 h1, by simpa using h3, ?_⟩
        by_cases h4 : (findS N all B).found = false
        · rw [if_pos h4]; simp [h4]
        · rw [if_neg h4]; simpa using h4
    · rw [if_neg h2] at h; omega
  · rw [if_neg h1] at h; omega
theorem find_fst {N : Net} {B : Int} (h : findE N false B = 14 ∨ findE N false B = 0) : (findE N false B = 14 ∧ ∀ c, ¬ Cand N c) ∨ (findE N false B = 0 ∧ Cand N (findT N false B)) := by
  obtain ⟨hN, hov, hf⟩ := findE_cases h
  have k := srch_fst (N := N) (B := B) hN N.evs.length 0 (start0 N.evs.length) (by omega) (start_pre N) (OkTo.zero _ _ hN) rfl hov
  unfold findS at hf
  rcases k with ⟨k1, k2, k3⟩ | ⟨k1, k2, k3, k4⟩
  · refine .inl ⟨?_, fun c hc => k3 c ⟨hc, agr0 hc⟩⟩
    rcases h with h | h
    · exact h
    · have := hf.2 h
      rw [k2] at this; cases this
  · have e := hf.1 k2
    have ht : findT N false B = (srch N false B N.evs.length 0 (start0 N.evs.length)).2.res := by unfold findT; rw [if_pos e]; rfl
    rw [ht]; exact .inr ⟨e, k3.1⟩
theorem find_inf {N : Net} {B : Int} (h : findE N false B = 14) (x : List Int) : feas N x = false := by
  rcases find_fst (.inl h) with ⟨_, k⟩ | ⟨k, _⟩
  · obtain ⟨hN, _⟩ := findE_cases (.inl h)
    obtain ⟨R, hR⟩ := rp_ex hN
    by_cases hx : feas N x = true
    · exact absurd (anch_cand hR hx) (k _)
    · simpa using hx
  · omega
theorem find_fea {N : Net} {B : Int} (h : findE N false B = 0) : feas N (findT N false B) = true := by
  rcases find_fst (.inr h) with ⟨k, _⟩ | ⟨_, k⟩
  · omega
  · exact k.feas (findE_cases (.inr h)).1
/-- Ascending numbers from 'k' up to (not with) 'm'. -/
def upTo (k m : Nat) : List Int := (List.range (m - k)).map fun (q : Nat) => ((k + q : Nat) : Int)
theorem upTo_len (k m : Nat) : (upTo k m).length = m - k := by simp [upTo]
theorem upTo_self (k : Nat) : upTo k k = [] := by simp [upTo]
theorem upTo_snoc {k m : Nat} (h : k ≤ m) : upTo k (m + 1) = upTo k m ++ [(m : Int)] := by
  unfold upTo
  rw [show m + 1 - k = (m - k) + 1 by omega, List.range_succ, List.map_append, List.map_cons, List.map_nil, show k + (m - k) = m by omega]
theorem upTo_cons {k : Nat} : ∀ (m : Nat), k < m → upTo k m = (k : Int) :: upTo (k + 1) m
  | m + 1, h => by
    by_cases e : k = m
    · subst e; rw [upTo_snoc (Nat.le_refl _), upTo_self, upTo_self]; rfl
    · rw [upTo_snoc (by omega), upTo_cons m (by omega), upTo_snoc (by omega)]; rfl
theorem setTo_congr {b b' : List Bool} : ∀ (k : Nat), (∀ p : Nat, p < k → el b (p : Int) = el b' (p : Int)) → setTo b k = setTo b' k
  | 0, _ => rfl
  | k + 1, h => by rw [setTo_step, setTo_step, h k (by omega), setTo_congr k (fun p hp => h p (by omega))]
theorem setTo_true {b : List Bool} {k : Nat} : ∀ (m : Nat), k ≤ m → (∀ j : Nat, k ≤ j → j < m → el b (j : Int) = true) → setTo b m = setTo b k ++ upTo k m
  | m, h, ht => by
    by_cases e : k = m
    · subst e; rw [upTo_self, List.append_nil]
    · obtain ⟨m', rfl⟩ : ∃ m', m = m' + 1 := ⟨m - 1, by omega⟩
      rw [setTo_step, if_pos (ht m' (by omega) (by omega)), setTo_true m' (by omega) (fun j h1 h2 => ht j h1 (by omega)), upTo_snoc (by omega), List.append_assoc]
theorem setTo_set {b : List Bool} {k : Nat} : setTo (b.set k false) k = setTo b k :=
  setTo_congr k (fun p hp => elSetN (i := (k : Int)) (by omega) (by omega) (by omega))
theorem setTo_asc (b : List Bool) : ∀ k : Nat, ascB (k : Int) (-1) (setTo b k) = true
  | 0 => rfl
  | k + 1 => by
    rw [setTo_step]
    split
    · exact asc_snoc _ (-1) (setTo_asc b k) (by omega)
    · exact asc_mono (by omega) _ (-1) (setTo_asc b k)
/-- A list without the element at 'i'. -/
def wo (l : List Int) (i : Nat) : List Int := l.take i ++ l.drop (i + 1)
theorem wo_app (l r : List Int) (x : Int) : wo (l ++ x :: r) l.length = l ++ r := by simp [wo]
structure RI (N : Net) (B : Int) (k : Nat) (s : FS) : Prop where
  len : s.b.length = N.acts.length
  tr : ∀ j : Nat, k ≤ j → j < N.acts.length → el s.b (j : Int) = true
  wl : s.wit.length = (setTo s.b k).length
  sum : s.left + s.used = B
  l0 : 0 ≤ s.left
  u0 : 0 ≤ s.used
theorem RI.zero {N : Net} {B : Int} (hB : 0 ≤ B) : RI N B 0 ⟨B - sfU N B, sfU N B, List.replicate N.acts.length true, []⟩ := by
  have := sfU_rng N B hB
  exact ⟨by simp, fun j _ h => elRep (by omega) (by omega), rfl, by show B - sfU N B + sfU N B = B; omega, by show 0 ≤ B - sfU N B; omega, by show 0 ≤ sfU N B; omega⟩
theorem stepF_some {N : Net} {k : Nat} {s s' : FS} (e : stepF N k s = some s') : sfE (subN N (setB (s.b.set k false))) s.left = 0 ∧
    s' = ⟨s.left - sfU (subN N (setB (s.b.set k false))) s.left, s.used + sfU (subN N (setB (s.b.set k false))) s.left,
      if sfB (subN N (setB (s.b.set k false))) s.left = true then s.b else s.b.set k false,
      if sfB (subN N (setB (s.b.set k false))) s.left = true then s.wit ++ [sfT (subN N (setB (s.b.set k false))) s.left] else s.wit⟩ := by
  unfold stepF at e
  split at e
  · rename_i h; exact ⟨h, (Option.some.inj e).symm⟩
  · cases e
theorem RI.step {N : Net} {B : Int} {k : Nat} {s s' : FS} (hk : k < N.acts.length) (h : RI N B k s) (e : stepF N k s = some s') : RI N B (k + 1) s' := by
  obtain ⟨h0, rfl⟩ := stepF_some e
  have hu := sfU_rng (subN N (setB (s.b.set k false))) s.left h.l0
  have hs := h.sum
  have hl := h.l0
  have hu0 := h.u0
  by_cases hb : sfB (subN N (setB (s.b.set k false))) s.left = true
  · rw [if_pos hb, if_pos hb]
    refine ⟨h.len, fun j h1 h2 => h.tr j (by omega) h2, ?_, ?_, ?_, ?_⟩
    · show (s.wit ++ [_]).length = (setTo s.b (k + 1)).length
      rw [setTo_step, if_pos (h.tr k (Nat.le_refl _) hk), List.length_append, List.length_append, h.wl]; rfl
    all_goals (dsimp only; omega)
  · rw [if_neg hb, if_neg hb]
    refine ⟨by simp [h.len], fun j h1 h2 => ?_, ?_, ?_, ?_, ?_⟩
    · show el (s.b.set k false) (j : Int) = true
      have := elSetN (l := s.b) (i := (k : Int)) (j := (j : Int)) (v := false) (by omega) (by omega) (by omega)
      exact this.trans (h.tr j (by omega) h2)
    · show s.wit.length = (setTo (s.b.set k false) (k + 1)).length
      have hf : el (s.b.set k false) (k : Int) = false := elSetS (i := (k : Int)) (by omega) (by rw [h.len]; omega)
      rw [setTo_step, if_neg (by rw [hf]; simp), setTo_set]; exact h.wl
    all_goals (dsimp only; omega)
theorem run_ri {N : Net} {B : Int} (hB : 0 ≤ B) : ∀ (k : Nat) (s : FS), k ≤ N.acts.length → runTo N B k = some s → RI N B k s
  | 0, s, _, e => by
    rw [runTo] at e
    rw [← Option.some.inj e]; exact RI.zero hB
  | k + 1, s, hk, e => by
    rw [runTo] at e
    cases hq : runTo N B k with
    | none => rw [hq] at e; cases e
    | some q => rw [hq] at e; exact (run_ri hB k q (by omega) hq).step (by omega) e
theorem RI.full {N : Net} {B : Int} {k : Nat} {s : FS} (h : RI N B k s) (hk : k ≤ N.acts.length) : setB s.b = setTo s.b k ++ upTo k N.acts.length := by
  unfold setB; rw [h.len]; exact setTo_true _ hk h.tr
theorem RI.out {N : Net} {B : Int} {k : Nat} {s : FS} (h : RI N B k s) (hk : k < N.acts.length) : setB (s.b.set k false) = wo (setB s.b) s.wit.length := by
  have hf : el (s.b.set k false) (k : Int) = false := elSetS (i := (k : Int)) (by omega) (by rw [h.len]; omega)
  have e1 : setB (s.b.set k false) = setTo s.b k ++ upTo (k + 1) N.acts.length := by
    unfold setB
    rw [List.length_set, h.len, setTo_true (b := s.b.set k false) (k := k + 1) _ (by omega) (fun j h1 h2 => (elSetN (l := s.b) (i := (k : Int)) (j := (j : Int)) (v := false) (by omega) (by omega) (by omega)).trans (h.tr j (by omega) h2)), setTo_step, if_neg (by rw [hf]; simp), setTo_set]
  rw [e1, h.full (by omega), upTo_cons _ hk, h.wl, wo_app]
theorem RI.lenS {N : Net} {B : Int} {k : Nat} {s : FS} (h : RI N B k s) (hk : k ≤ N.acts.length) : (setB s.b).length = s.wit.length + (N.acts.length - k) := by
  rw [h.full hk, List.length_append, upTo_len, h.wl]
/-- What holds of the set and the witnesses on the way. -/
structure RF (N : Net) (s : FS) : Prop where
  inf : ∀ x, feas (subN N (setB s.b)) x = false
  wit : ∀ j : Nat, j < s.wit.length → feas (subN N (wo (setB s.b) j)) (el s.wit (j : Int)) = true
theorem sub_mono {N : Net} {s s' t : List Int} (hN : NetOk N) (hs : ∀ a ∈ s', a ∈ s) (hr : ∀ a ∈ s', 0 ≤ a ∧ a < N.acts.length) (hl : (s'.length : Int) ≤ N.acts.length) (h : feas (subN N s) t = true) : feas (subN N s') t = true := by
  obtain ⟨hg, ha⟩ := feas_iff.1 h
  refine feas_iff.2 ⟨⟨sub_okS hN hl hr, hg.2, hg.3⟩, fun a ha' => ?_⟩
  obtain ⟨q, hq, rfl⟩ := List.mem_map.1 (show a ∈ s'.map (el N.acts) from ha')
  exact ha _ (List.mem_map.2 ⟨q, hs q hq, rfl⟩)
theorem wo_mem {l : List Int} {i : Nat} {a : Int} (h : a ∈ wo l i) : a ∈ l := by
  rcases List.mem_append.1 h with h | h
  · exact List.mem_of_mem_take h
  · exact List.mem_of_mem_drop h
theorem wo_len (l : List Int) (i : Nat) : (wo l i).length ≤ l.length := by
  unfold wo; rw [List.length_append, List.length_take, List.length_drop]; omega
theorem wo_wo {l : List Int} {i j : Nat} (hij : j < i) {a : Int} (h : a ∈ wo (wo l i) j) : a ∈ wo l j := by
  unfold wo at h ⊢
  rcases List.mem_append.1 h with h | h
  · refine List.mem_append.2 (.inl ?_)
    rw [List.take_append] at h
    rcases List.mem_append.1 h with h | h
    · rw [List.take_take] at h
      rw [show min j i = j by omega] at h; exact h
    · rw [List.length_take] at h
      by_cases hi : i ≤ l.length
      · rw [show j - min i l.length = 0 by omega] at h; simp at h
      · rw [List.drop_of_length_le (by omega)] at h; simp at h
  · refine List.mem_append.2 (.inr ?_)
    rw [List.drop_append] at h
    rcases List.mem_append.1 h with h | h
    · rw [List.drop_take] at h
      exact List.mem_of_mem_take h
    · have h2 := List.mem_of_mem_drop h
      obtain ⟨n, hn⟩ : ∃ n, i + 1 = (j + 1) + n := ⟨i - j, by omega⟩
      rw [hn, ← List.drop_drop] at h2
      exact List.mem_of_mem_drop h2
end Go.Proofs.Ytclligkngjhihaa
