/-
  Walks of the functions, printed by a program out of the code and the loops' relations.
-/
import Derived.Test.YtclligkngjhihaaWkD
import Derived.Test.YtclligkngjhihaaProg
import Derived.KernelRfl
import Derived.Test.YtclligkngjhihaaE1
import Derived.Test.YtclligkngjhihaaCy
import Derived.Test.YtclligkngjhihaaH6
namespace Go.Proofs.Ytclligkngjhihaa
open Go.Wk Go.RowKit
set_option linter.unusedVariables false
set_option linter.unusedSimpArgs false
def endS (a : Ac) (s : Int) : Int := if s < 0 then a.tt else a.fr
def endE (a : Ac) (s : Int) : Int := if s < 0 then a.fr else a.tt
theorem st_rng {N : Net} {arcs signs : List Int} {k : Nat} (hN : NetOk N) (h0 : 0 ≤ el arcs (k : Int)) (h1 : el arcs (k : Int) < N.acts.length) : 0 ≤ stK N arcs signs k ∧ stK N arcs signs k < N.evs.length := by
  have ok := hN.acs _ (el_mem h0 h1)
  unfold stK cySt
  split
  · exact ⟨ok.t0, ok.t1⟩
  · exact ⟨ok.f0, ok.f1⟩
theorem atK_succ {N : Net} {arcs signs : List Int} {k : Nat} : atK N arcs signs (k + 1) = enK N arcs signs k := by unfold atK; rw [if_neg (by omega)]; rfl
def inR (N : Net) (vals : List Int) : Bool := decide (vals.length = N.acts.length) && vals.all (fun v => decide (-131072 ≤ v ∧ v ≤ 131072))
theorem inR_iff {N : Net} {vals : List Int} : inR N vals = true ↔ vals.length = N.acts.length ∧ ∀ k : Nat, k < vals.length → -131072 ≤ el vals (k : Int) ∧ el vals (k : Int) ≤ 131072 := by
  unfold inR
  simp only [Bool.and_eq_true, decide_eq_true_eq, List.all_eq_true]
  constructor
  · rintro ⟨h1, h2⟩; exact ⟨h1, fun k hk => h2 _ (el_mem (by omega) (by omega))⟩
  · rintro ⟨h1, h2⟩
    refine ⟨h1, fun x hx => ?_⟩
    obtain ⟨i, hi, rfl⟩ := List.getElem_of_mem hx
    have := h2 i hi
    simpa [el, hi] using this
theorem inR_len {N : Net} {vals : List Int} (h : ¬ (vals.length : Int) = N.acts.length) : inR N vals = false := by
  cases e : inR N vals with
  | false => rfl
  | true => have := (inR_iff.1 e).1; omega
theorem inR_at {N : Net} {vals : List Int} {k : Nat} (hk : k < vals.length) (h : ¬ (-131072 ≤ el vals (k : Int) ∧ el vals (k : Int) ≤ 131072)) : inR N vals = false := by
  cases e : inR N vals with
  | false => rfl
  | true => exact absurd ((inR_iff.1 e).2 k hk) h
theorem tot_rng {N : Net} {arcs signs vals : List Int} (hc : CyA N arcs signs arcs.length) (hr : inR N vals = true) : ∀ k : Nat, k ≤ arcs.length → -(131072 * (k : Int)) ≤ totC arcs signs vals k ∧ totC arcs signs vals k ≤ 131072 * (k : Int)
  | 0, _ => by simp [totC]
  | k + 1, hk => by
    have ih := tot_rng hc hr k (by omega)
    obtain ⟨h0, h1, h2⟩ := hc.rng k (by omega)
    obtain ⟨r1, r2⟩ := inR_iff.1 hr
    have hv := r2 (el arcs (k : Int)).toNat (by omega)
    rw [Int.toNat_of_nonneg h0] at hv
    unfold totC
    rcases h2 with e | e <;> rw [e] <;> omega
def tenL (N : Net) (t : List Int) : List Int := if goodT N t = true then N.acts.map (durA N t) else []
def tenE (N : Net) (t : List Int) : Int := if goodT N t = true then 0 else 1
end Go.Proofs.Ytclligkngjhihaa
