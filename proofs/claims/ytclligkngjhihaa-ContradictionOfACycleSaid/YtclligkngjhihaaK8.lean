/-
  Walks of the functions, printed by a program out of the code and the loops' relations.
-/
import Derived.Test.YtclligkngjhihaaWkD
import Derived.Test.YtclligkngjhihaaProg
import Derived.KernelRfl
import Derived.Test.YtclligkngjhihaaK7
import Derived.Test.YtclligkngjhihaaSz
namespace Go.Proofs.Ytclligkngjhihaa
open Go.Wk Go.RowKit
set_option linter.unusedVariables false
set_option linter.unusedSimpArgs false
/-- Sums over a cycle: the least durations with their signs, the room forwards and backwards, the slacks with their signs and without. -/
def bsC (N : Net) (arcs signs : List Int) : Nat → Int
  | 0 => 0
  | k + 1 => if 0 < el signs (k : Int) then bsC N arcs signs k + (el N.acts (el arcs (k : Int))).mn else bsC N arcs signs k - (el N.acts (el arcs (k : Int))).mn
def fwC (N : Net) (arcs signs : List Int) : Nat → Int
  | 0 => 0
  | k + 1 => if 0 < el signs (k : Int) then fwC N arcs signs k + ((el N.acts (el arcs (k : Int))).mx - (el N.acts (el arcs (k : Int))).mn) else fwC N arcs signs k
def bwC (N : Net) (arcs signs : List Int) : Nat → Int
  | 0 => 0
  | k + 1 => if 0 < el signs (k : Int) then bwC N arcs signs k else bwC N arcs signs k + ((el N.acts (el arcs (k : Int))).mx - (el N.acts (el arcs (k : Int))).mn)
def sgC (N : Net) (x arcs signs : List Int) : Nat → Int
  | 0 => 0
  | k + 1 => if 0 < el signs (k : Int) then sgC N x arcs signs k + slk N x (el N.acts (el arcs (k : Int))) else sgC N x arcs signs k - slk N x (el N.acts (el arcs (k : Int)))
def abC (N : Net) (x arcs : List Int) : Nat → Int
  | 0 => 0
  | k + 1 => abC N x arcs k + slk N x (el N.acts (el arcs (k : Int)))
theorem cyc_tot {N : Net} {x arcs signs : List Int} (hc : CyA N arcs signs arcs.length) : ∀ k : Nat, k ≤ arcs.length → totC arcs signs (N.acts.map (durA N x)) k = bsC N arcs signs k + sgC N x arcs signs k
  | 0, _ => rfl
  | k + 1, hk => by
    have ih := cyc_tot (x := x) hc k (by omega)
    obtain ⟨r0, r1, r2⟩ := hc.rng k (by omega)
    rw [totC, ih, elMapC r0 r1, dur_slk]
    rw [bsC, sgC]
    rcases r2 with e | e
    · rw [e, if_pos (by omega), if_pos (by omega)]; omega
    · rw [e, if_neg (by omega), if_neg (by omega)]; omega
theorem cyc_room {N : Net} {x arcs signs : List Int} (hN : NetOk N) (hc : CyA N arcs signs arcs.length) (hf : ∀ a ∈ N.acts, slk N x a ≤ a.mx - a.mn) : ∀ k : Nat, k ≤ arcs.length →
    -(bwC N arcs signs k) ≤ sgC N x arcs signs k ∧ sgC N x arcs signs k ≤ fwC N arcs signs k ∧ sgC N x arcs signs k ≤ abC N x arcs k ∧ -(sgC N x arcs signs k) ≤ abC N x arcs k ∧ 0 ≤ abC N x arcs k
  | 0, _ => by simp [bwC, sgC, fwC, abC]
  | k + 1, hk => by
    have ih := cyc_room (x := x) hN hc hf k (by omega)
    obtain ⟨r0, r1, r2⟩ := hc.rng k (by omega)
    have hs := slk_rng (N := N) (t := x) (a := el N.acts (el arcs (k : Int))) hN.p2
    have hm := hf _ (el_mem r0 r1)
    rw [bwC, sgC, fwC, abC]
    rcases r2 with e | e
    · rw [e, if_pos (by omega), if_pos (by omega), if_pos (by omega)]; omega
    · rw [e, if_neg (by omega), if_neg (by omega), if_neg (by omega)]; omega
/-- A cycle in a network with feasible times goes round a whole number of periods, within its room. -/
theorem cyc_wind {N : Net} {x arcs signs : List Int} (hc : CyOk N arcs signs) (hf : feas N x = true) : ∃ z : Int, bsC N arcs signs arcs.length - bwC N arcs signs arcs.length ≤ z * N.p ∧ z * N.p ≤ bsC N arcs signs arcs.length + fwC N arcs signs arcs.length ∧
    z * N.p - bsC N arcs signs arcs.length ≤ abC N x arcs arcs.length ∧ bsC N arcs signs arcs.length - z * N.p ≤ abC N x arcs arcs.length := by
  obtain ⟨hg, hs⟩ := feas_iff.1 hf
  have h1 := cyc_tot (x := x) hc.a arcs.length (Nat.le_refl _)
  have h2 := cyc_room (x := x) hc.ok hc.a hs arcs.length (Nat.le_refl _)
  have h3 := tot_mod (t := x) hc
  obtain ⟨z, hz⟩ := Int.dvd_of_emod_eq_zero h3
  rw [Int.mul_comm] at hz
  exact ⟨z, by omega, by omega, by omega, by omega⟩
theorem sum_rng {N : Net} {arcs signs : List Int} (hN : NetOk N) (hc : CyA N arcs signs arcs.length) : ∀ k : Nat, k ≤ arcs.length → -(65536 * (k : Int)) ≤ bsC N arcs signs k ∧ bsC N arcs signs k ≤ 65536 * (k : Int) ∧ 0 ≤ fwC N arcs signs k ∧ fwC N arcs signs k ≤ 7200 * (k : Int) ∧ 0 ≤ bwC N arcs signs k ∧ bwC N arcs signs k ≤ 7200 * (k : Int)
  | 0, _ => by simp [bsC, fwC, bwC]
  | k + 1, hk => by
    have ih := sum_rng hN hc k (by omega)
    obtain ⟨r0, r1, r2⟩ := hc.rng k (by omega)
    have ok := hN.acs _ (el_mem r0 r1)
    have hp7 := hN.p7
    obtain ⟨f0, f1, t0, t1, ne, m0, m1, m2, m3, _, _⟩ := ok
    rw [bsC, fwC, bwC]
    rcases r2 with e | e
    · rw [e, if_pos (by omega), if_pos (by omega), if_pos (by omega)]; omega
    · rw [e, if_neg (by omega), if_neg (by omega), if_neg (by omega)]; omega
end Go.Proofs.Ytclligkngjhihaa
