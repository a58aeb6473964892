/-
  Walks of the functions, printed by a program out of the code and the loops' relations.
-/
import Derived.Test.YtdgkaahghlbocaaWkD
import Derived.Test.YtdgkaahghlbocaaProg
import Derived.KernelRfl
import Derived.Test.YtdgkaahghlbocaaC2
namespace Go.Proofs.Ytdgkaahghlbocaa
open Go.Wk Go.RowKit
set_option linter.unusedVariables false
set_option linter.unusedSimpArgs false
/-- What the function value of Potentials has set: the events known, their times. -/
structure PotV (N : Net) (vals : List Int) (Kn0 : List Bool) (X0 : List Int) (vis : List Vt) (Kn : List Bool) (X : List Int) : Prop where
  kl : Kn.length = N.evs.length
  xl : X.length = N.evs.length
  rng : ∀ x : Int, 0 ≤ x → x < N.evs.length → 0 ≤ el X x ∧ el X x < N.p
  kn : ∀ x : Int, 0 ≤ x → x < N.evs.length → (el Kn x = true ↔ el Kn0 x = true ∨ x ∈ vis.map Prod.fst)
  old : ∀ x : Int, 0 ≤ x → x < N.evs.length → ¬ x ∈ vis.map Prod.fst → el X x = el X0 x
  dif : ∀ v ∈ vis, (el X v.1 - el X v.2.2 - v.2.1.2 * el vals v.2.1.1) % N.p = 0
theorem PotV.start {N : Net} {vals : List Int} {Kn : List Bool} {X : List Int} (h1 : Kn.length = N.evs.length) (h2 : X.length = N.evs.length) (h3 : ∀ x : Int, 0 ≤ x → x < N.evs.length → 0 ≤ el X x ∧ el X x < N.p) : PotV N vals Kn X [] Kn X :=
  ⟨h1, h2, h3, fun x _ _ => by simp, fun x _ _ _ => rfl, fun v hv => (by cases hv)⟩
theorem vis_last {N : Net} {tree : List Int} {first : Int} {evs : List Int} {vis : List Vt} {e f : Int} {p : Int × Int} {Rd : List Bool} (h : Vis N tree first evs (vis ++ [(e, p, f)]) Rd) : p.1 ∈ tree ∧ (p.2 = 1 ∨ p.2 = -1) ∧ cySt N p.1 p.2 = f ∧ cyEn N p.1 p.2 = e ∧ (0 ≤ e ∧ e < N.evs.length) ∧ (0 ≤ f ∧ f < N.evs.length) ∧ e ≠ f ∧ (∀ v ∈ vis, e ≠ v.1 ∧ e ≠ v.2.2) := by
  have hl := h.len
  rw [List.length_append, List.length_singleton] at hl
  obtain ⟨a1, a2, a3, a4, c, a5, a6⟩ := h.vi vis.length (by simp)
  rw [el_app2] at a1 a2 a3 a4 a6
  have ae : el evs ((vis.length + 1 : Nat) : Int) = e := by rw [h.atS (by simp), el_app2]
  have re : 0 ≤ e ∧ e < N.evs.length := by rw [← ae]; exact h.rng _ (el_mem (by omega) (by omega))
  have rf : 0 ≤ f ∧ f < N.evs.length := by
    have := h.rng _ (el_mem (l := evs) (i := (c : Int)) (by omega) (by omega))
    rw [a6] at this; exact this
  refine ⟨a1, a2, a3, a4, re, rf, fun q => ?_, fun v hv => ?_⟩
  · have := h.inj (i := vis.length + 1) (j := c) (by omega) (by omega) (by rw [ae, a6]; exact q); omega
  · obtain ⟨k, hk, rfl⟩ := List.getElem_of_mem hv
    have ek : el (vis ++ [(e, p, f)]) (k : Int) = vis[k] := by rw [el_app1 hk]; simp [el, hk]
    have h1 := h.atS (k := k) (by simp; omega)
    obtain ⟨_, _, _, _, d, b5, b6⟩ := h.vi k (by simp; omega)
    rw [ek] at h1 b6
    refine ⟨fun q => ?_, fun q => ?_⟩
    · have := h.inj (i := vis.length + 1) (j := k + 1) (by omega) (by omega) (by rw [ae, h1]; exact q); omega
    · have := h.inj (i := vis.length + 1) (j := d) (by omega) (by omega) (by rw [ae, b6]; exact q); omega
theorem PotV.add {N : Net} {tree : List Int} {first : Int} {evs : List Int} {vals : List Int} {Kn0 Kn : List Bool} {X0 X : List Int} {vis : List Vt} {e f : Int} {p : Int × Int} {Rd : List Bool} (hN : NetOk N) (h : PotV N vals Kn0 X0 vis Kn X) (hv : Vis N tree first evs (vis ++ [(e, p, f)]) Rd) {y : Int} (hy : y = (el X f + p.2 * el vals p.1) % N.p) :
    PotV N vals Kn0 X0 (vis ++ [(e, p, f)]) (Kn.set e.toNat true) (X.set e.toNat y) := by
  obtain ⟨a1, a2, a3, a4, ⟨e0, e1⟩, ⟨f0, f1⟩, hef, hne⟩ := vis_last hv
  have p2 := hN.p2
  have hkl := h.kl
  have hxl := h.xl
  have y0 : 0 ≤ y := by rw [hy]; exact Int.emod_nonneg _ (by omega)
  have y1 : y < N.p := by rw [hy]; exact Int.emod_lt_of_pos _ (by omega)
  have hm : ∀ x : Int, x ∈ (vis ++ [(e, p, f)]).map Prod.fst ↔ x ∈ vis.map Prod.fst ∨ x = e := fun x => by simp
  refine ⟨by simp [hkl], by simp [hxl], fun x x0 x1 => ?_, fun x x0 x1 => ?_, fun x x0 x1 hx => ?_, fun v hv' => ?_⟩
  · by_cases q : x = e
    · rw [q, elSetS e0 (by omega)]; exact ⟨y0, y1⟩
    · rw [elSetN e0 x0 q]; exact h.rng x x0 x1
  · rw [hm]
    by_cases q : x = e
    · rw [q, elSetS e0 (by omega)]; simp
    · rw [elSetN e0 x0 q, h.kn x x0 x1]; simp [q]
  · rw [hm] at hx
    rw [elSetN e0 x0 (fun q => hx (.inr q))]
    exact h.old x x0 x1 (fun q => hx (.inl q))
  · rcases List.mem_append.1 hv' with q | q
    · have hq := hne v q
      obtain ⟨k, hk, hke⟩ := List.getElem_of_mem q
      have ek : el (vis ++ [(e, p, f)]) (k : Int) = v := by rw [el_app1 hk]; simp [el, hk, hke]
      obtain ⟨_, _, _, _, d, b5, b6⟩ := hv.vi k (by simp; omega)
      rw [ek] at b6
      have hl := hv.len
      rw [List.length_append, List.length_singleton] at hl
      have h1 := hv.atS (k := k) (by simp; omega)
      rw [ek] at h1
      have r1 := hv.rng _ (el_mem (l := evs) (i := ((k + 1 : Nat) : Int)) (by omega) (by omega))
      have r2 := hv.rng _ (el_mem (l := evs) (i := (d : Int)) (by omega) (by omega))
      rw [h1] at r1
      rw [b6] at r2
      rw [elSetN e0 r1.1 (fun z => hq.1 z.symm), elSetN e0 r2.1 (fun z => hq.2 z.symm)]
      exact h.dif v q
    · rw [List.mem_singleton.1 q]
      show (el (X.set e.toNat y) e - el (X.set e.toNat y) f - p.2 * el vals p.1) % N.p = 0
      rw [elSetS e0 (by omega), elSetN e0 f0 (fun z => hef z.symm), hy]
      have := Int.emod_add_mul_ediv (el X f + p.2 * el vals p.1) N.p
      have e2 : (el X f + p.2 * el vals p.1) % N.p - el X f - p.2 * el vals p.1 = N.p * (-((el X f + p.2 * el vals p.1) / N.p)) := by rw [Int.mul_neg]; omega
      rw [e2]; exact Int.mul_emod_right _ _
/-- All events up to 'k' and what hangs together with them have their times. -/
structure PotTo (N : Net) (tree vals : List Int) (k : Nat) (Kn : List Bool) (X : List Int) : Prop where
  kl : Kn.length = N.evs.length
  xl : X.length = N.evs.length
  rng : ∀ x : Int, 0 ≤ x → x < N.evs.length → 0 ≤ el X x ∧ el X x < N.p
  kn : ∀ x : Int, 0 ≤ x → x < N.evs.length → (el Kn x = true ↔ ∃ f : Nat, f < k ∧ conB (tree.map (el N.acts)) (f : Int) x = true)
  dif : ∀ a ∈ tree, el Kn (el N.acts a).fr = true → (el X (el N.acts a).tt - el X (el N.acts a).fr - el vals a) % N.p = 0
  new : ∀ x : Int, 0 ≤ x → x < N.evs.length → el Kn x = false → el X x = 0
  fst : ∀ x : Nat, x < N.evs.length → fstB (conB (tree.map (el N.acts))) x = true → el X (x : Int) = 0
theorem PotTo.start {N : Net} {tree vals : List Int} (hN : NetOk N) : PotTo N tree vals 0 (List.replicate N.evs.length false) (List.replicate N.evs.length 0) := by
  have p2 := hN.p2
  refine ⟨by simp, by simp, fun x x0 x1 => ?_, fun x x0 x1 => ?_, fun a ha h => ?_, fun x x0 x1 _ => elRep x0 x1, fun x x1 _ => elRep (by omega) (by omega)⟩
  · rw [elRep x0 x1]; omega
  · rw [elRep x0 x1]; exact ⟨fun h => (by cases h), fun ⟨f, hf, _⟩ => (by omega)⟩
  · have : el (List.replicate N.evs.length false) (el N.acts a).fr = false := by
      unfold el; rw [List.getD_eq_getElem?_getD, List.getElem?_replicate]; split <;> rfl
    rw [this] at h; cases h
theorem PotTo.skip {N : Net} {tree vals : List Int} {k : Nat} {Kn : List Bool} {X : List Int} (h : PotTo N tree vals k Kn X) (hk : k < N.evs.length) (hn : el Kn (k : Int) = true) : PotTo N tree vals (k + 1) Kn X := by
  refine ⟨h.kl, h.xl, h.rng, fun x x0 x1 => ?_, h.dif, h.new, h.fst⟩
  rw [h.kn x x0 x1]
  constructor
  · rintro ⟨f, h1, h2⟩; exact ⟨f, by omega, h2⟩
  · rintro ⟨f, h1, h2⟩
    by_cases e : f = k
    · subst e
      obtain ⟨g, g1, g2⟩ := (h.kn f (by omega) (by omega)).1 hn
      exact ⟨g, g1, (con_eqk _).trans _ _ _ g2 h2⟩
    · exact ⟨f, by omega, h2⟩
theorem PotTo.next {N : Net} {tree vals : List Int} {k : Nat} {Kn Kn1 : List Bool} {X X1 : List Int} {evs : List Int} {vis : List Vt} {Rd : List Bool} (hN : NetOk N) (hf : FoA N tree tree.length) (h : PotTo N tree vals k Kn X) (hk : k < N.evs.length) (hn : el Kn (k : Int) = false)
    (hv : Vis N tree (k : Int) evs vis Rd) (hc : ∀ a ∈ tree, ((el N.acts a).fr ∈ evs ↔ (el N.acts a).tt ∈ evs)) (hp : PotV N vals (Kn.set (k : Int).toNat true) X vis Kn1 X1) : PotTo N tree vals (k + 1) Kn1 X1 := by
  have hcomp := hv.comp hc
  have hkl := h.kl
  have E := con_eqk (tree.map (el N.acts))
  have htm : ∀ a ∈ tree, 0 ≤ a ∧ a < N.acts.length := fun a ha => by
    obtain ⟨i, hi, rfl⟩ := List.getElem_of_mem ha
    have := hf.rng i hi
    simpa [el, hi] using this
  have hnk : ∀ f : Nat, f < k → conB (tree.map (el N.acts)) (f : Int) (k : Int) = false := fun f hf' => by
    cases e : conB (tree.map (el N.acts)) (f : Int) (k : Int) with
    | false => rfl
    | true => rw [(h.kn k (by omega) (by omega)).2 ⟨f, hf', e⟩] at hn; cases hn
  have hk0 : ∀ x : Int, 0 ≤ x → x < N.evs.length → (el (Kn.set (k : Int).toNat true) x = true ↔ el Kn x = true ∨ x = k) := fun x x0 x1 => by
    by_cases q : x = k
    · rw [q, elSetS (by omega) (by omega)]; simp
    · rw [elSetN (by omega) x0 q]; simp [q]
  have hev : ∀ x : Int, x ∈ evs ↔ x = k ∨ x ∈ vis.map Prod.fst := fun x => by rw [hv.ev, List.mem_cons]
  have hkn : ∀ x : Int, 0 ≤ x → x < N.evs.length → (el Kn1 x = true ↔ el Kn x = true ∨ x ∈ evs) := fun x x0 x1 => by
    rw [hp.kn x x0 x1, hk0 x x0 x1, hev, or_assoc]
  have hdisj : ∀ x : Int, 0 ≤ x → x < N.evs.length → x ∈ evs → el Kn x = false := fun x x0 x1 hx => by
    cases e : el Kn x with
    | false => rfl
    | true =>
      obtain ⟨f, f1, f2⟩ := (h.kn x x0 x1).1 e
      have := E.trans _ _ _ f2 (E.symm _ _ ((hcomp x).1 hx))
      rw [hnk f f1] at this; cases this
  have hvm : ∀ x : Int, x ∈ vis.map Prod.fst → x ∈ evs ∧ x ≠ k := fun x hx => by
    refine ⟨(hev x).2 (.inr hx), fun q => ?_⟩
    have := hv.nd
    rw [hv.ev, List.nodup_cons] at this
    exact this.1 (q ▸ hx)
  refine ⟨hp.kl, hp.xl, hp.rng, fun x x0 x1 => ?_, fun a ha hfr => ?_, fun x x0 x1 hx => ?_, fun x x1 hx => ?_⟩
  · rw [hkn x x0 x1, h.kn x x0 x1, hcomp]
    constructor
    · rintro (⟨f, f1, f2⟩ | q)
      · exact ⟨f, by omega, f2⟩
      · exact ⟨k, by omega, q⟩
    · rintro ⟨f, f1, f2⟩
      by_cases e : f = k
      · subst e; exact .inr f2
      · exact .inl ⟨f, by omega, f2⟩
  · have hr := htm a ha
    have ok := hN.acs _ (el_mem hr.1 hr.2)
    rcases (hkn _ ok.f0 ok.f1).1 hfr with q | q
    · have hnf : ¬ (el N.acts a).fr ∈ evs := fun z => by rw [hdisj _ ok.f0 ok.f1 z] at q; cases q
      have hnt : ¬ (el N.acts a).tt ∈ evs := fun z => hnf ((hc a ha).2 z)
      rw [hp.old _ ok.f0 ok.f1 (fun z => hnf (hvm _ z).1), hp.old _ ok.t0 ok.t1 (fun z => hnt (hvm _ z).1)]
      exact h.dif a ha q
    · obtain ⟨j, hj, hja⟩ := hv.all hN hf ha q ((hc a ha).1 q)
      obtain ⟨_, b2, b3, b4, _⟩ := hv.vi j hj
      have hd := hp.dif _ (el_mem (l := vis) (i := (j : Int)) (by omega) (by omega))
      rw [← b3, ← b4, hja] at hd
      rw [hja] at b3 b4
      rcases b2 with s | s
      · rw [s] at hd
        have e1 : cyEn N a 1 = (el N.acts a).tt := by unfold cyEn; rw [if_neg (by decide)]
        have e2 : cySt N a 1 = (el N.acts a).fr := by unfold cySt; rw [if_neg (by decide)]
        rw [e1, e2, Int.one_mul] at hd; exact hd
      · rw [s] at hd
        have e1 : cyEn N a (-1) = (el N.acts a).fr := by unfold cyEn; rw [if_pos (by decide)]
        have e2 : cySt N a (-1) = (el N.acts a).tt := by unfold cySt; rw [if_pos (by decide)]
        rw [e1, e2] at hd
        have h3 := Int.dvd_neg.2 (Int.dvd_of_emod_eq_zero hd)
        refine Int.emod_eq_zero_of_dvd ?_
        rwa [show -(el X1 (el N.acts a).fr - el X1 (el N.acts a).tt - -1 * el vals a) = el X1 (el N.acts a).tt - el X1 (el N.acts a).fr - el vals a by omega] at h3
  · have hx' : ¬ (el Kn x = true ∨ x ∈ evs) := fun q => by rw [(hkn x x0 x1).2 q] at hx; cases hx
    have h1 : el Kn x = false := by
      cases e : el Kn x with
      | false => rfl
      | true => exact absurd (.inl e) hx'
    rw [hp.old x x0 x1 (fun z => hx' (.inr (hvm x z).1))]
    exact h.new x x0 x1 h1
  · have : ¬ (x : Int) ∈ vis.map Prod.fst := fun z => by
      obtain ⟨z1, z2⟩ := hvm _ z
      have hc1 := (hcomp _).1 z1
      rcases Nat.lt_trichotomy x k with c | c | c
      · have := hnk x c; rw [E.symm _ _ hc1] at this; cases this
      · exact z2 (by omega)
      · have := first_yes hx c; rw [hc1] at this; cases this
    rw [hp.old x (by omega) (by omega) this]
    exact h.fst x x1 hx
theorem PotTo.done {N : Net} {tree vals : List Int} {Kn : List Bool} {X : List Int} (hN : NetOk N) (htm : ∀ a ∈ tree, 0 ≤ a ∧ a < N.acts.length) {k : Nat} (h : PotTo N tree vals k Kn X) (hk : N.evs.length ≤ k) : PotOk N tree vals X := by
  refine ⟨h.xl, h.rng, fun a ha => ?_, h.fst⟩
  have hr := htm a ha
  have ok := hN.acs _ (el_mem hr.1 hr.2)
  have f0 := ok.f0
  have f1 := ok.f1
  refine h.dif a ha ((h.kn _ f0 f1).2 ⟨(el N.acts a).fr.toNat, by omega, ?_⟩)
  rw [Int.toNat_of_nonneg f0]; exact (con_eqk _).refl _
end Go.Proofs.Ytdgkaahghlbocaa
