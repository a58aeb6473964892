/-
  Least contradictions as plain data (layer 18).
-/
import Derived.Test.YtclligkngjhihaaSz
namespace Go.Wk
set_option linter.unusedVariables false
set_option linter.unusedSimpArgs false

/-- The numbers below 'k' that are in a set. -/
def setTo (b : List Bool) (k : Nat) : List Int := ((List.range k).filter fun (q : Nat) => el b (q : Int)).map fun (q : Nat) => (q : Int)
theorem setTo_step (b : List Bool) (k : Nat) : setTo b (k + 1) = if el b (k : Int) = true then setTo b k ++ [(k : Int)] else setTo b k := by
  unfold setTo
  rw [List.range_succ, List.filter_append, List.map_append]
  by_cases h : el b (k : Int) = true
  · simp [h]
  · rw [if_neg h, List.filter_cons_of_neg (by simpa using h)]; simp
theorem setTo_len (b : List Bool) (k : Nat) : (setTo b k).length ≤ k := by
  unfold setTo; rw [List.length_map]; exact Nat.le_trans (List.length_filter_le _ _) (by simp)
theorem setTo_mem {b : List Bool} {k : Nat} {q : Int} (h : q ∈ setTo b k) : 0 ≤ q ∧ q < k := by
  obtain ⟨p, hp, rfl⟩ := List.mem_map.1 h
  have := List.mem_range.1 (List.mem_filter.1 hp).1
  omega
def setB (b : List Bool) : List Int := setTo b b.length

theorem lpS_le {B : Int} {f : Int → Sr → Bool × Sr} (hf : ∀ x s, s.used ≤ B → (f x s).2.used ≤ B) : ∀ (c : Nat) (x : Int) (s : Sr), s.used ≤ B → (lpS f c x s).2.used ≤ B
  | 0, x, s, h => h
  | c + 1, x, s, h => by
    have k := hf x s h
    unfold lpS
    generalize f x s = r at k
    obtain ⟨b, s'⟩ := r
    cases b with
    | true => exact lpS_le hf c (x + 1) s' k
    | false => exact k
theorem srch_le {N : Net} {all : Bool} {B : Int} : ∀ (m i : Nat) (s : Sr), s.used ≤ B → (srch N all B m i s).2.used ≤ B
  | 0, i, s, h => h
  | m + 1, i, s, h => by
    unfold srch
    refine lpS_le (fun x s h => ?_) _ _ _ h
    unfold bodyS
    split
    · exact h
    · split
      · simp only [stepS]; omega
      · exact srch_le m (i + 1) (stepS i x s) (by simp only [stepS]; omega)
theorem findU_rng (N : Net) (all : Bool) (B : Int) : 0 ≤ findU N all B ∧ findU N all B ≤ max B 0 := by
  unfold findU
  split
  · rename_i h
    have hB : 1 ≤ B := by
      unfold findE at h
      by_cases h1 : netOk N = true
      · by_cases h2 : 1 ≤ B ∧ B ≤ 1048576
        · exact h2.1
        · rw [if_pos h1, if_neg h2] at h; omega
      · rw [if_neg h1] at h; omega
    have h1 := srch_up (N := N) (all := all) (B := B) N.evs.length 0 (start0 N.evs.length)
    have h2 := srch_le (N := N) (all := all) (B := B) N.evs.length 0 (start0 N.evs.length) (by show (0 : Int) ≤ B; omega)
    have e : (start0 N.evs.length).used = 0 := rfl
    unfold findS
    omega
  · omega
end Go.Wk
