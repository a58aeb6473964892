/-
  Walks of the functions, printed by a program out of the code and the loops' relations.
-/
import Derived.Test.YtclligkngjhihaaWkD
import Derived.Test.YtclligkngjhihaaProg
import Derived.KernelRfl
import Derived.Test.YtclligkngjhihaaL1
import Derived.Test.YtclligkngjhihaaH6
namespace Go.Proofs.Ytclligkngjhihaa
open Go.Wk Go.RowKit
set_option linter.unusedVariables false
set_option linter.unusedSimpArgs false
theorem put_all {n : Nat} {P : Int} (hP : 0 < P) (f : Nat → Int) (val : Nat → Int) : ∀ m : Nat, (∀ q : Nat, q < m → 0 ≤ f q ∧ f q < n) → (∀ i j : Nat, i < j → j < m → f i ≠ f j) → ∃ T : List Int, T.length = n ∧ (∀ x : Int, 0 ≤ x → x < n → 0 ≤ el T x ∧ el T x < P) ∧ ∀ j : Nat, j < m → el T (f j) = val j % P
  | 0, _, _ => ⟨List.replicate n 0, by simp, fun x x0 x1 => by rw [elRep x0 x1]; omega, fun j hj => by omega⟩
  | m + 1, h1, h2 => by
    obtain ⟨T, t1, t2, t3⟩ := put_all (n := n) hP f val m (fun q hq => h1 q (by omega)) (fun i j hi hj => h2 i j hi (by omega))
    have hm := h1 m (by omega)
    refine ⟨T.set (f m).toNat (val m % P), by simp [t1], fun x x0 x1 => ?_, fun j hj => ?_⟩
    · by_cases e : x = f m
      · rw [e, elSetS hm.1 (by omega)]; exact ⟨Int.emod_nonneg _ (by omega), Int.emod_lt_of_pos _ hP⟩
      · rw [elSetN hm.1 x0 e]; exact t2 x x0 x1
    · by_cases e : j = m
      · subst e; exact elSetS hm.1 (by omega)
      · have hj' := h1 j (by omega)
        rw [elSetN hm.1 hj'.1 (h2 j m (by omega) (by omega))]
        exact t3 j (by omega)
theorem mod3 {a b d P : Int} (h : a - b = d) : (a % P - b % P - d) % P = 0 := by
  refine Int.emod_eq_zero_of_dvd ?_
  have h1 := Int.emod_add_mul_ediv a P
  have h2 := Int.emod_add_mul_ediv b P
  have e : a % P - b % P - d = P * (b / P - a / P) := by rw [Int.mul_sub]; omega
  rw [e]; exact Int.dvd_mul_right _ _
theorem cst_rng {N : Net} {arcs signs : List Int} {k : Nat} (hN : NetOk N) (h0 : 0 ≤ el arcs (k : Int)) (h1 : el arcs (k : Int) < N.acts.length) : 0 ≤ stK N arcs signs k ∧ stK N arcs signs k < N.evs.length := by
  have ok := hN.acs _ (el_mem h0 h1)
  unfold stK cySt
  split
  · exact ⟨ok.t0, ok.t1⟩
  · exact ⟨ok.f0, ok.f1⟩
/-- A cycle without one of its activities can be satisfied. -/
theorem cyc_part {N : Net} {arcs signs : List Int} (hc : CyOk N arcs signs) {k : Nat} (hk : k < arcs.length) : ∃ T, GoodT N T ∧ ∀ j : Nat, j < arcs.length → j ≠ k → slk N T (el N.acts (el arcs (j : Int))) = 0 := by
  have hN := hc.ok
  have p2 := hN.p2
  have h2 := hc.two
  obtain ⟨mins, hmins⟩ : ∃ l, l = N.acts.map fun a => a.mn := ⟨_, rfl⟩
  obtain ⟨sg, hsg⟩ : ∃ f : Nat → Int, f = totC arcs signs mins := ⟨_, rfl⟩
  have hs0 : sg 0 = 0 := by rw [hsg]; rfl
  have hsS : ∀ j : Nat, j < arcs.length → sg (j + 1) = sg j + el signs (j : Int) * (el N.acts (el arcs (j : Int))).mn := fun j hj => by
    obtain ⟨r0, r1, _⟩ := hc.a.rng j hj
    rw [hsg, totC, hmins]
    have : el (N.acts.map fun a => a.mn) (el arcs (j : Int)) = (el N.acts (el arcs (j : Int))).mn := elMapC r0 r1
    rw [this]
  obtain ⟨val, hval⟩ : ∃ f : Nat → Int, f = fun j => if j ≤ k then sg j + sg arcs.length else sg j := ⟨_, rfl⟩
  obtain ⟨T, t1, t2, t3⟩ := put_all (n := N.evs.length) (P := N.p) (by omega) (fun q => stK N arcs signs q) val arcs.length (fun q hq => cst_rng hN (hc.a.rng q hq).1 (hc.a.rng q hq).2.1) (fun i j hi hj => hc.b.dist i j hi hj)
  refine ⟨T, ⟨hN, t1, fun x hx => ?_⟩, fun j hj hjk => ?_⟩
  · obtain ⟨i, hi, rfl⟩ := List.getElem_of_mem hx
    have := t2 (i : Int) (by omega) (by omega)
    simpa [el, hi] using this
  · obtain ⟨r0, r1, rs⟩ := hc.a.rng j hj
    have hst := t3 j hj
    -- where the arc ends
    have hen : ∃ v : Int, el T (enK N arcs signs j) = v % N.p ∧ v - val j = el signs (j : Int) * (el N.acts (el arcs (j : Int))).mn := by
      have hvj : val j = if j ≤ k then sg j + sg arcs.length else sg j := by rw [hval]
      have hS := hsS j hj
      by_cases c : j + 1 < arcs.length
      · have hjn := hc.b.join j c
        refine ⟨val (j + 1), by rw [← hjn]; exact t3 (j + 1) c, ?_⟩
        have hvj1 : val (j + 1) = if j + 1 ≤ k then sg (j + 1) + sg arcs.length else sg (j + 1) := by rw [hval]
        rw [hvj, hvj1]
        by_cases c2 : j ≤ k
        · rw [if_pos c2, if_pos (by omega)]; omega
        · rw [if_neg c2, if_neg (by omega)]; omega
      · have hcl := hc.b.close (by omega)
        rw [show arcs.length - 1 = j by omega] at hcl
        refine ⟨val 0, by rw [← hcl]; exact t3 0 (by omega), ?_⟩
        have hv0 : val 0 = sg 0 + sg arcs.length := by rw [hval]; dsimp only; rw [if_pos (by omega)]
        rw [hvj, hv0, if_neg (by omega), hs0, show arcs.length = j + 1 by omega]; omega
    obtain ⟨v, hv1, hv2⟩ := hen
    have hm := mod3 (P := N.p) hv2
    (try dsimp only at hst)
    rw [← hst, ← hv1] at hm
    unfold slk
    unfold stK enK cySt cyEn at hm
    rcases rs with e | e
    · rw [e, if_neg (by omega), if_neg (by omega), Int.one_mul] at hm; exact hm
    · rw [e, if_pos (by omega), if_pos (by omega)] at hm
      have h3 := Int.dvd_neg.2 (Int.dvd_of_emod_eq_zero hm)
      refine Int.emod_eq_zero_of_dvd ?_
      rwa [show -(el T (el N.acts (el arcs (j : Int))).fr - el T (el N.acts (el arcs (j : Int))).tt - -1 * (el N.acts (el arcs (j : Int))).mn) = el T (el N.acts (el arcs (j : Int))).tt - el T (el N.acts (el arcs (j : Int))).fr - (el N.acts (el arcs (j : Int))).mn by omega] at h3
theorem cyc_room2 {N : Net} {x arcs signs : List Int} (hN : NetOk N) (hc : CyA N arcs signs arcs.length) (hf : ∀ j : Nat, j < arcs.length → slk N x (el N.acts (el arcs (j : Int))) ≤ (el N.acts (el arcs (j : Int))).mx - (el N.acts (el arcs (j : Int))).mn) : ∀ k : Nat, k ≤ arcs.length →
    -(bwC N arcs signs k) ≤ sgC N x arcs signs k ∧ sgC N x arcs signs k ≤ fwC N arcs signs k
  | 0, _ => by simp [bwC, sgC, fwC]
  | k + 1, hk => by
    have ih := cyc_room2 (x := x) hN hc hf k (by omega)
    obtain ⟨r0, r1, r2⟩ := hc.rng k (by omega)
    have hs := slk_rng (N := N) (t := x) (a := el N.acts (el arcs (k : Int))) hN.p2
    have hm := hf k (by omega)
    rw [bwC, sgC, fwC]
    rcases r2 with e | e
    · rw [e, if_pos (by omega), if_pos (by omega), if_pos (by omega)]; omega
    · rw [e, if_neg (by omega), if_neg (by omega), if_neg (by omega)]; omega
/-- Times that satisfy the activities of a cycle: it goes round a whole number of periods, within its room. -/
theorem cyc_wind2 {N : Net} {x arcs signs : List Int} (hc : CyOk N arcs signs) (hf : ∀ j : Nat, j < arcs.length → slk N x (el N.acts (el arcs (j : Int))) ≤ (el N.acts (el arcs (j : Int))).mx - (el N.acts (el arcs (j : Int))).mn) : ∃ z : Int, bsC N arcs signs arcs.length - bwC N arcs signs arcs.length ≤ z * N.p ∧ z * N.p ≤ bsC N arcs signs arcs.length + fwC N arcs signs arcs.length := by
  have h1 := cyc_tot (x := x) hc.a arcs.length (Nat.le_refl _)
  have h2 := cyc_room2 (x := x) hc.ok hc.a hf arcs.length (Nat.le_refl _)
  have h3 := tot_mod (t := x) hc
  obtain ⟨z, hz⟩ := Int.dvd_of_emod_eq_zero h3
  rw [Int.mul_comm] at hz
  exact ⟨z, by omega, by omega⟩
/-! ### A finer bound of the steps: the first event is tried once -/
theorem limI_zero (N : Net) : limI N 0 = 1 := by unfold limI; rw [if_pos (by simp [fstB])]
theorem srch_cnt0 {N : Net} {all : Bool} {B L : Int} (hp : 1 ≤ N.p) (hL : N.p ≤ L) (m : Nat) (s : Sr) : Cnt B (1 + wS L m) s (srch N all B (m + 1) 0 s) := by
  have hw := wS_nonneg (L := L) (by omega) m
  have hb : ∀ x s, Cnt B (1 + wS L m) s (bodyS N all B 0 (srch N all B m (0 + 1)) x s) := fun x s => by
    unfold bodyS
    split
    · rename_i hu
      exact ⟨Int.le_refl _, by simp only; omega, fun h => by omega, fun _ => rfl⟩
    · split
      · exact ⟨by simp only [stepS]; omega, by simp only [stepS]; omega, fun _ => rfl, fun h => h⟩
      · have k := srch_cnt (all := all) (B := B) hp hL m (0 + 1) (stepS 0 x s)
        have k1 := k.lo
        have k2 := k.hi
        have k3 := k.ov
        have e1 : (stepS 0 x s).used = s.used + 1 := rfl
        have e2 : (stepS 0 x s).over = s.over := rfl
        rw [e1] at k1 k2 k3
        exact ⟨by omega, by omega, fun h => (k3 (by omega)).trans e2, fun h => k.st (e2.trans h)⟩
  unfold srch
  have k := lpS_cnt (by omega) hb (limI N 0).toNat 0 s
  rw [limI_zero] at k ⊢
  have e : (((1 : Int).toNat : Nat) : Int) * (1 + wS L m) = 1 + wS L m := by simp
  rw [e] at k
  exact k
theorem wS4 : ∀ m : Nat, m ≤ 4 → wS 9 m ≤ 7380
  | 0, _ => by decide
  | 1, _ => by decide
  | 2, _ => by decide
  | 3, _ => by decide
  | 4, _ => by decide
  | m + 5, h => by omega
theorem small_cnt7 {N : Net} (h : SmallNet N) (all : Bool) {B : Int} (hB : 7381 ≤ B) : (findS N all B).over = false ∧ (findS N all B).used ≤ 7381 := by
  obtain ⟨hok, h2, h9, h1, h5, h8, hmn⟩ := h
  obtain ⟨m, hm⟩ : ∃ m, N.evs.length = m + 1 := ⟨N.evs.length - 1, by omega⟩
  have k := srch_cnt0 (N := N) (all := all) (B := B) (L := 9) (by omega) h9 m (start0 N.evs.length)
  have hw := wS4 m (by omega)
  have e : (start0 N.evs.length).used = 0 := rfl
  have k2 := k.hi
  have k3 := k.ov
  rw [e] at k2 k3
  unfold findS
  rw [← hm] at k2 k3
  exact ⟨k3 (by omega), by omega⟩
theorem small_sf7 {N : Net} {L : Int} (h : SmallNet N) (h0 : 7381 ≤ L) (h1 : L ≤ 1048576) : sfE N L = 0 ∧ sfU N L ≤ 7381 := by
  have hc := small_cnt7 h false h0
  have hv : findE N false L = 0 ∨ findE N false L = 14 := by
    unfold findE
    rw [if_pos (netOk_iff.2 h.1), if_pos (by omega), hc.1, if_neg (by decide)]
    split
    · exact .inr rfl
    · exact .inl rfl
  have e : sfE N L = 0 := by unfold sfE; rw [if_neg (by omega), if_neg (by omega)]
  refine ⟨e, ?_⟩
  unfold sfU; rw [if_pos e]
  unfold findU; rw [if_pos hv]; exact hc.2
theorem small_run7 {N : Net} {B : Int} (h : SmallNet N) (hl : N.acts.length ≤ 5) (hB : 131072 ≤ B) (hB2 : B ≤ 1048576) : ∀ k : Nat, k ≤ N.acts.length → ∃ s, runTo N B k = some s ∧ s.used ≤ ((k : Int) + 1) * 7381
  | 0, _ => ⟨_, rfl, by have := (small_sf7 h (L := B) (by omega) (by omega)).2; show sfU N B ≤ _; omega⟩
  | k + 1, hk => by
    obtain ⟨s, hs, hu⟩ := small_run7 h hl hB hB2 k (by omega)
    have r := run_ri (N := N) (B := B) (by omega) k s (by omega) hs
    have hsum := r.sum
    have hu0 := r.u0
    have q := small_sf7 (set_small h r) (L := s.left) (by omega) (by omega)
    refine ⟨_, by rw [runTo, hs]; show stepF N k s = _; unfold stepF; rw [if_pos q.1], ?_⟩
    show s.used + _ ≤ _
    omega
theorem asc_pw {m : Int} : ∀ (l : List Int) (last : Int), ascB m last l = true → l.Pairwise (fun x y => x < y)
  | [], _, _ => List.Pairwise.nil
  | a :: r, last, h => by
    simp only [ascB, Bool.and_eq_true, decide_eq_true_eq] at h
    exact List.Pairwise.cons (fun b hb => (asc_rng r a h.2 b hb).1) (asc_pw r a h.2)
/-- The activities of a cycle that cannot be satisfied are a least contradiction. -/
theorem cyc_find {N : Net} {arcs signs S : List Int} (hs : SmallNet N) (hc : CyOk N arcs signs) (hm : ∀ i : Int, i ∈ S ↔ i ∈ arcs) (hp : S.Pairwise (fun x y => x < y)) (hno : ∀ t, feas (subN N S) t = false) : SmallNet (subN N S) ∧ cfE (subN N S) 131072 = 0 ∧ (cfS (subN N S) 131072).length = S.length := by
  have hN := hc.ok
  have hnd : S.Nodup := hp.imp (fun h => by omega)
  have hna : arcs.Nodup := by
    rw [List.nodup_iff_pairwise_ne, List.pairwise_iff_getElem]
    intro i j hi hj hij e
    have := hc.a.dist i j hij hj
    simp [el, hi, hj, e] at this
  have hperm : S.Perm arcs := (List.perm_ext_iff_of_nodup hnd hna).2 hm
  have hlen := hperm.length_eq
  have hae : arcs.length ≤ N.evs.length := inj_len arcs.length (fun q => stK N arcs signs q) (fun q hq => cst_rng hN (hc.a.rng q hq).1 (hc.a.rng q hq).2.1) (fun i j hi hj => hc.b.dist i j hi hj)
  have hca := cy_len hc
  have h5 := hs.2.2.2.2.1
  have hsr : ∀ a ∈ S, 0 ≤ a ∧ a < N.acts.length := fun a ha => by
    obtain ⟨i, hi, rfl⟩ := List.getElem_of_mem ((hm a).1 ha)
    have := hc.a.rng i hi
    have e : el arcs (i : Int) = arcs[i] := by simp [el, hi]
    rw [e] at this; exact ⟨this.1, this.2.1⟩
  have hM : SmallNet (subN N S) := small_sub hs (by omega) hsr
  have hMl : (subN N S).acts.length = S.length := by simp [subN]
  have hMe : ∀ j : Int, 0 ≤ j → j < S.length → el (subN N S).acts j = el N.acts (el S j) := fun j j0 j1 => elMapC j0 j1
  obtain ⟨s, hr, _⟩ := small_run7 (B := 131072) hM (by omega) (by omega) (by omega) _ (Nat.le_refl _)
  have hsf := small_sf7 hM (L := 131072) (by omega) (by omega)
  have hsb : sfB (subN N S) 131072 = false := by
    rcases sf_cases hM.1 (by omega) (by omega) hsf.1 with q | q
    · have := find_fea q.2; rw [hno] at this; cases this
    · exact q.1
  obtain ⟨f0, f1, _, _⟩ := cf0 (netOk_iff.2 hM.1) (by omega) hsf.1 hsb hr
  refine ⟨hM, f0, ?_⟩
  have hL := cf_least f0
  generalize cfS (subN N S) 131072 = C at hL
  have hCr := asc_rng C (-1) hL.asc
  have hCp := asc_pw C (-1) hL.asc
  have hall : ∀ i : Nat, i < S.length → (i : Int) ∈ C := fun i hi => by
    apply Classical.byContradiction
    intro hni
    have hiS : el S (i : Int) ∈ arcs := (hm _).1 (el_mem (by omega) (by omega))
    obtain ⟨k, hk, hke⟩ := List.getElem_of_mem hiS
    have hke2 : el arcs (k : Int) = el S (i : Int) := by simp [el, hk] at hke ⊢; rw [hke]
    obtain ⟨T, hT, hz⟩ := cyc_part hc hk
    have hfe : feas (subN (subN N S) C) T = true := by
      have hCl : (C.length : Int) ≤ (subN N S).acts.length := by
        have := inj_len (n := (subN N S).acts.length) C.length (fun q => el C (q : Int)) (fun q hq => by have := hCr _ (el_mem (l := C) (i := (q : Int)) (by omega) (by omega)); omega) (fun a b ha hb e => by
          have := List.pairwise_iff_getElem.1 hCp a b (by omega) hb ha
          simp [el, hb, show a < C.length by omega] at e; omega)
        omega
      refine feas_iff.2 ⟨⟨sub_okS hM.1 hCl (fun a ha => by have := hCr a ha; omega), hT.2, hT.3⟩, fun a ha => ?_⟩
      obtain ⟨j, hj, rfl⟩ := List.mem_map.1 (show a ∈ C.map (el (subN N S).acts) from ha)
      have hjr := hCr j hj
      rw [hMl] at hjr
      rw [hMe j (by omega) (by omega)]
      have hjS : el S j ∈ arcs := (hm _).1 (el_mem (by omega) (by omega))
      obtain ⟨q, hq, hqe⟩ := List.getElem_of_mem hjS
      have hqe2 : el arcs (q : Int) = el S j := by simp [el, hq] at hqe ⊢; rw [hqe]
      have hne : q ≠ k := fun e => by
        subst e
        have e2 : el S j = el S (i : Int) := hqe2.symm.trans hke2
        obtain ⟨j', rfl⟩ := Int.eq_ofNat_of_zero_le (show 0 ≤ j by omega)
        have hji : j' ≠ i := fun e => hni (by rw [← e]; exact hj)
        have hj1 : j' < S.length := by omega
        have e3 : S[j'] = S[i] := by simpa [el, hj1, hi] using e2
        rcases Nat.lt_or_ge j' i with c | c
        · have := List.pairwise_iff_getElem.1 hp j' i hj1 hi c; omega
        · have := List.pairwise_iff_getElem.1 hp i j' hi hj1 (by omega); omega
      have h0 := hz q hq hne
      rw [hqe2] at h0
      have hr' := hsr _ (el_mem (l := S) (i := j) (by omega) (by omega))
      have ok := hN.acs _ (el_mem hr'.1 hr'.2)
      have hm1 := ok.m1
      show slk N T _ ≤ _
      omega
    rw [hL.inf] at hfe; cases hfe
  have hpC : C.Perm ((List.range S.length).map fun (i : Nat) => (i : Int)) := by
    refine (List.perm_ext_iff_of_nodup (hCp.imp (fun h => by omega)) ?_).2 (fun x => ?_)
    · rw [List.nodup_iff_pairwise_ne, List.pairwise_map]
      exact List.pairwise_lt_range.imp (fun h => by omega)
    · rw [List.mem_map]
      constructor
      · intro hx
        have := hCr x hx
        rw [hMl] at this
        exact ⟨x.toNat, List.mem_range.2 (by omega), by omega⟩
      · rintro ⟨i, hi, rfl⟩; exact hall i (List.mem_range.1 hi)
  have := hpC.length_eq
  simpa using this
end Go.Proofs.Ytclligkngjhihaa
