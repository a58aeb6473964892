/-
  Walks of the functions, printed by a program out of the code and the loops' relations.
-/
import Derived.Test.YtclligkngjhihaaWkD
import Derived.Test.YtclligkngjhihaaProg
import Derived.KernelRfl
import Derived.Test.YtclligkngjhihaaE8
namespace Go.Proofs.Ytclligkngjhihaa
open Go.Wk Go.RowKit
set_option linter.unusedVariables false
set_option linter.unusedSimpArgs false
def ResIn (L : Nat) (s : Sr) : Prop := s.res.length ≤ L ∧ s.t.length = L
theorem lpS_res {f : Int → Sr → Bool × Sr} {L : Nat} (hf : ∀ x s, ResIn L s → ResIn L (f x s).2) : ∀ (c : Nat) (x : Int) (s : Sr), ResIn L s → ResIn L (lpS f c x s).2
  | 0, x, s, h => h
  | c + 1, x, s, h => by
    have h1 := hf x s h
    unfold lpS
    generalize f x s = r at h1
    obtain ⟨b, s'⟩ := r
    cases b with
    | true => exact lpS_res hf c (x + 1) s' h1
    | false => exact h1
theorem srch_res {N : Net} {all : Bool} {B : Int} {L : Nat} : ∀ (m i : Nat) (s : Sr), ResIn L s → ResIn L (srch N all B m i s).2
  | 0, i, s, h => ⟨by show s.t.length ≤ L; rw [h.2]; exact Nat.le_refl _, h.2⟩
  | m + 1, i, s, h => by
    unfold srch
    refine lpS_res (fun x s h => ?_) _ _ _ h
    have h1 : ResIn L (stepS i x s) := ⟨h.1, by show (s.t.set i x).length = L; rw [List.length_set]; exact h.2⟩
    unfold bodyS
    by_cases q : s.used = B
    · rw [if_pos q]; exact h
    · rw [if_neg q]
      by_cases q2 : skipS N all (stepS i x s) i = true
      · rw [if_pos q2]; exact h1
      · rw [if_neg q2]; exact srch_res m (i + 1) _ h1
theorem findT_len {N : Net} {all : Bool} {B : Int} : ((findT N all B).length : Int) ≤ 48 := by
  unfold findT
  by_cases h : findE N all B = 0
  · rw [if_pos h]
    have hn : netOk N = true := by
      unfold findE at h
      by_cases q : netOk N = true
      · exact q
      · rw [if_neg q] at h; cases h
    have h1 := (srch_res (N := N) (all := all) (B := B) (L := N.evs.length) N.evs.length 0 (start0 N.evs.length) ⟨by simp [start0], by simp [start0]⟩).1
    have h2 := (netOk_iff.1 hn).ev
    unfold findS
    omega
  · rw [if_neg h]; simp
end Go.Proofs.Ytclligkngjhihaa
