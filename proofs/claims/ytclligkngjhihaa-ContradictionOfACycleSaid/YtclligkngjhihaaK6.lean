/-
  Walks of the functions, printed by a program out of the code and the loops' relations.
-/
import Derived.Test.YtclligkngjhihaaWkD
import Derived.Test.YtclligkngjhihaaProg
import Derived.KernelRfl
import Derived.Test.YtclligkngjhihaaK5
namespace Go.Proofs.Ytclligkngjhihaa
open Go.Wk Go.RowKit
set_option linter.unusedVariables false
set_option linter.unusedSimpArgs false
theorem dur_mod (N : Net) (t : List Int) (a : Ac) : ∃ m : Int, durA N t a = el t a.tt - el t a.fr + m * N.p := by
  refine ⟨-((el t a.tt - el t a.fr - a.mn) / N.p), ?_⟩
  have h := Int.emod_add_mul_ediv (el t a.tt - el t a.fr - a.mn) N.p
  unfold durA
  rw [Int.neg_mul, Int.mul_comm]
  omega
theorem arc_mod {N : Net} {t arcs signs : List Int} {k : Nat} (h0 : 0 ≤ el arcs (k : Int)) (h1 : el arcs (k : Int) < N.acts.length) (h2 : el signs (k : Int) = 1 ∨ el signs (k : Int) = -1) :
    ∃ m : Int, el signs (k : Int) * el (N.acts.map (durA N t)) (el arcs (k : Int)) = el t (enK N arcs signs k) - el t (stK N arcs signs k) + m * N.p := by
  rw [elMapC h0 h1]
  obtain ⟨m, hm⟩ := dur_mod N t (el N.acts (el arcs (k : Int)))
  rcases h2 with e | e
  · refine ⟨m, ?_⟩
    unfold enK stK cyEn cySt
    rw [e, if_neg (by omega), if_neg (by omega), Int.one_mul, hm]
  · refine ⟨-m, ?_⟩
    unfold enK stK cyEn cySt
    rw [e, if_pos (by omega), if_pos (by omega), hm]
    have hneg := Int.neg_mul m N.p
    omega
theorem tele {N : Net} {t arcs signs : List Int} (hc : CyOk N arcs signs) : ∀ k : Nat, k ≤ arcs.length → ∃ m : Int, totC arcs signs (N.acts.map (durA N t)) k = (if k = 0 then 0 else el t (enK N arcs signs (k - 1)) - el t (stK N arcs signs 0)) + m * N.p
  | 0, _ => ⟨0, by simp [totC]⟩
  | k + 1, hk => by
    obtain ⟨m, hm⟩ := tele (t := t) hc k (by omega)
    obtain ⟨r0, r1, r2⟩ := hc.a.rng k (by omega)
    obtain ⟨m', hm'⟩ := arc_mod (t := t) r0 r1 r2
    refine ⟨m + m', ?_⟩
    rw [totC, hm, hm', if_neg (show ¬ (k + 1 = 0) by omega), Int.add_mul, show k + 1 - 1 = k by omega]
    by_cases e : k = 0
    · subst e; rw [if_pos rfl]; omega
    · rw [if_neg e]
      have hj := hc.b.join (k - 1) (by omega)
      rw [show k - 1 + 1 = k by omega] at hj
      rw [hj]; omega
theorem tot_mod {N : Net} {t arcs signs : List Int} (hc : CyOk N arcs signs) : totC arcs signs (N.acts.map (durA N t)) arcs.length % N.p = 0 := by
  obtain ⟨m, hm⟩ := tele (t := t) hc arcs.length (Nat.le_refl _)
  have h2 := hc.two
  rw [hm, if_neg (by omega), hc.b.close (by omega), show el t (enK N arcs signs (arcs.length - 1)) - el t (enK N arcs signs (arcs.length - 1)) = 0 by omega, Int.zero_add]
  exact Int.mul_emod_left m N.p
theorem ten_good {N : Net} {t : List Int} (hg : GoodT N t) : tenE N t = 0 ∧ tenL N t = N.acts.map (durA N t) ∧ inR N (N.acts.map (durA N t)) = true := by
  have h := goodT_iff.2 hg
  refine ⟨by unfold tenE; rw [if_pos h], by unfold tenL; rw [if_pos h], inR_iff.2 ⟨by simp, fun k hk => ?_⟩⟩
  rw [List.length_map] at hk
  rw [elMapC (by omega) (by omega)]
  have ha := hg.ok.acs _ (el_mem (l := N.acts) (i := (k : Int)) (by omega) (by omega))
  have hp2 := hg.ok.p2
  have hp7 := hg.ok.p7
  obtain ⟨f0, f1, t0, t1, ne, m0, m1, m2, m3, _, _⟩ := ha
  unfold durA
  have hm1 := Int.emod_nonneg (el t (el N.acts (k : Int)).tt - el t (el N.acts (k : Int)).fr - (el N.acts (k : Int)).mn) (b := N.p) (by omega)
  have hm2 := Int.emod_lt_of_pos (el t (el N.acts (k : Int)).tt - el t (el N.acts (k : Int)).fr - (el N.acts (k : Int)).mn) (b := N.p) (by omega)
  omega
end Go.Proofs.Ytclligkngjhihaa
