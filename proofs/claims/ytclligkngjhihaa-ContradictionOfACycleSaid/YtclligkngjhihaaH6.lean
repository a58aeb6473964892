/-
  Walks of the functions, printed by a program out of the code and the loops' relations.
-/
import Derived.Test.YtclligkngjhihaaWkD
import Derived.Test.YtclligkngjhihaaProg
import Derived.KernelRfl
import Derived.Test.YtclligkngjhihaaH5
namespace Go.Proofs.Ytclligkngjhihaa
open Go.Wk Go.RowKit
set_option linter.unusedVariables false
set_option linter.unusedSimpArgs false
theorem small_sub {N : Net} {s : List Int} (h : SmallNet N) (hl : (s.length : Int) ≤ N.acts.length) (hs : ∀ a ∈ s, 0 ≤ a ∧ a < N.acts.length) : SmallNet (subN N s) := by
  obtain ⟨hok, h2, h9, h1, h5, h8, hmn⟩ := h
  refine ⟨sub_okS hok hl hs, h2, h9, h1, h5, by simp [subN]; omega, fun a ha => ?_⟩
  obtain ⟨q, hq, rfl⟩ := List.mem_map.1 (show a ∈ s.map (el N.acts) from ha)
  exact hmn _ (el_mem (hs q hq).1 (hs q hq).2)
theorem find_one {N : Net} {all : Bool} {L : Int} (h1 : 1 ≤ N.evs.length) (hp : 2 ≤ N.p) (hov : (findS N all L).over = false) : 1 ≤ (findS N all L).used := by
  have k := srch_exa (N := N) (all := all) (B := L) N.evs.length 0 (start0 N.evs.length) hov
  apply Classical.byContradiction
  intro hne
  have e := k.all 0 (by unfold findS at hne; omega)
  unfold findS at hov
  rw [← e] at hov
  obtain ⟨m, hm⟩ : ∃ m, N.evs.length = m + 1 := ⟨N.evs.length - 1, by omega⟩
  obtain ⟨c, hc⟩ : ∃ c, (limI N 0).toNat = c + 1 := ⟨(limI N 0).toNat - 1, by unfold limI; split <;> omega⟩
  rw [hm] at hov
  unfold srch at hov
  rw [hc] at hov
  unfold lpS bodyS at hov
  rw [if_pos (show (start0 (m + 1)).used = 0 from rfl)] at hov
  cases hov
theorem small_fe {N : Net} {L : Int} (h : SmallNet N) (h0 : 66429 ≤ L) (h1 : L ≤ 1048576) : findE N false L = 0 ∨ findE N false L = 14 := by
  have hc := small_cnt h false h0
  unfold findE
  rw [if_pos (netOk_iff.2 h.1), if_pos (by omega), hc.1, if_neg (by decide)]
  split
  · exact .inr rfl
  · exact .inl rfl
theorem sfU_one {N : Net} {L : Int} (h1 : 1 ≤ N.evs.length) (hN : NetOk N) (hL : 0 ≤ L) (hM : L ≤ 1048576) (h : sfE N L = 0) : 1 ≤ sfU N L := by
  unfold sfU; rw [if_pos h]
  have hv : findE N false L = 0 ∨ findE N false L = 14 := by
    rcases sf_cases hN hL hM h with q | q
    · exact .inl q.2
    · exact .inr q.2
  unfold findU; rw [if_pos hv]
  exact find_one h1 hN.p2 (findE_cases hv.symm).2.1
theorem small_sf {N : Net} {L : Int} (h : SmallNet N) (h0 : 66429 ≤ L) (h1 : L ≤ 1048576) : sfE N L = 0 ∧ sfU N L ≤ 66429 := by
  have hc := small_cnt h false h0
  have hv := small_fe h h0 h1
  have e : sfE N L = 0 := by unfold sfE; rw [if_neg (by omega), if_neg (by omega)]
  refine ⟨e, ?_⟩
  unfold sfU; rw [if_pos e]
  unfold findU; rw [if_pos hv]; exact hc.2
theorem set_small {N : Net} {B : Int} {k : Nat} {s : FS} (h : SmallNet N) (r : RI N B k s) : SmallNet (subN N (setB (s.b.set k false))) := by
  have hlen := r.len
  have hl1 := setB_len (s.b.set k false)
  rw [List.length_set] at hl1
  exact small_sub h (by omega) (fun a ha => by have := setB_mem a ha; rw [List.length_set] at this; omega)
theorem small_run {N : Net} (h : SmallNet N) : ∀ k : Nat, k ≤ N.acts.length → ∃ s, runTo N 1048576 k = some s ∧ s.used ≤ ((k : Int) + 1) * 66429
  | 0, _ => ⟨_, rfl, by have := (small_sf h (L := 1048576) (by omega) (by omega)).2; show sfU N 1048576 ≤ _; omega⟩
  | k + 1, hk => by
    obtain ⟨s, hs, hu⟩ := small_run h k (by omega)
    have r := run_ri (N := N) (B := 1048576) (by omega) k s (by omega) hs
    have h8 := h.2.2.2.2.2.1
    have hsum := r.sum
    have hu0 := r.u0
    have q := small_sf (set_small h r) (L := s.left) (by omega) (by omega)
    refine ⟨_, by rw [runTo, hs]; show stepF N k s = _; unfold stepF; rw [if_pos q.1], ?_⟩
    show s.used + _ ≤ _
    omega
theorem small_none {N : Net} (h : SmallNet N) : (cfE N 1048576 = 6 ∧ findE N false 1048576 = 0) ∨ (cfE N 1048576 = 0 ∧ findE N false 1048576 = 14) := by
  obtain ⟨s, hs, _⟩ := small_run h N.acts.length (Nat.le_refl _)
  have q := (small_sf h (L := 1048576) (by omega) (by omega)).1
  unfold cfE
  rw [if_pos (netOk_iff.2 h.1), if_pos (by omega), if_pos q, hs]
  rcases sf_cases h.1 (by omega) (by omega) q with c | c
  · exact .inl ⟨by rw [if_pos c.1], c.2⟩
  · exact .inr ⟨by rw [if_neg (by rw [c.1]; decide)], c.2⟩
theorem run_used {N : Net} {B : Int} (h : SmallNet N) (h0 : 0 ≤ B) (h1 : B ≤ 1048576) (hE : sfE N B = 0) : ∀ (k : Nat) (s : FS), k ≤ N.acts.length → runTo N B k = some s → (k : Int) + 1 ≤ s.used
  | 0, s, _, e => by
    rw [runTo] at e
    rw [← Option.some.inj e]
    have := sfU_one h.2.2.2.1 h.1 h0 h1 hE
    show (0 : Int) + 1 ≤ sfU N B; omega
  | k + 1, s, hk, e => by
    rw [runTo] at e
    cases hq : runTo N B k with
    | none => rw [hq] at e; cases e
    | some q =>
      rw [hq] at e
      have r := run_ri (by omega) k q (by omega) hq
      have ih := run_used h h0 h1 hE k q (by omega) hq
      obtain ⟨e0, rfl⟩ := stepF_some e
      have hsum := r.sum
      have hu0 := r.u0
      have hM := set_small h r
      have := sfU_one hM.2.2.2.1 hM.1 r.l0 (by omega) e0
      show ((k + 1 : Nat) : Int) + 1 ≤ q.used + _
      omega
theorem cf_used {N : Net} {B : Int} (h : SmallNet N) (e : cfE N B = 0) : (N.acts.length : Int) + 1 ≤ cfU N B := by
  obtain ⟨hN, hB, hI, s, hs, e1, e2, e3⟩ := cfE_cases e
  rw [e3]
  refine run_used h (by omega) hB.2 ?_ _ s (Nat.le_refl _) hs
  unfold sfE; rw [if_neg (by omega), if_neg (by omega)]
theorem cf_none {N : Net} {B : Int} (e : cfE N B ≠ 0) : cfS N B = [] ∧ cfW N B = [] ∧ cfU N B = 0 := by
  unfold cfS cfW cfU; rw [if_neg e, if_neg e, if_neg e]; exact ⟨rfl, rfl, rfl⟩
end Go.Proofs.Ytclligkngjhihaa
