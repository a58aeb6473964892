/-
  What a walk along a forest meets: each event but the first with the arc and the event from which it was come to.
-/
import Derived.Test.YtdgkaahghlbocaaWy
namespace Go.Wk
set_option linter.unusedVariables false
set_option linter.unusedSimpArgs false

abbrev Vt := Int × (Int × Int) × Int
/-- Something that changes in own blocks alone cannot spoil. -/
structure Kpi {β : Type} (z : Nat) (I : β → World → Prop) (v : β) (w : World) : Prop where
  it : I v w
  st : ∀ (v : β) (w1 w2 : World) (a b : Nat), I v w1 → Out a b w1 w2 → (z ≤ a ∨ b ≤ a) → I v w2
theorem Kpi.out {β : Type} {z a b : Nat} {I : β → World → Prop} {v : β} {w w' : World} (h : Kpi z I v w) (ho : Out a b w w') (hs : z ≤ a ∨ b ≤ a) : Kpi z I v w' := ⟨h.st v w w' a b h.it ho hs, h.st⟩
theorem Kpi.ext {β : Type} {z : Nat} {I : β → World → Prop} {v : β} {w w' : World} (h : Kpi z I v w) (ho : Ext w w') : Kpi z I v w' := h.out ho (.inr (Nat.le_refl _))

structure Vis (N : Net) (tree : List Int) (first : Int) (evs : List Int) (vis : List Vt) (Rd : List Bool) : Prop where
  ev : evs = first :: vis.map Prod.fst
  rl : Rd.length = N.evs.length
  rd : ∀ x : Int, 0 ≤ x → x < N.evs.length → (el Rd x = true ↔ x ∈ evs)
  rng : ∀ x ∈ evs, 0 ≤ x ∧ x < N.evs.length
  nd : evs.Nodup
  vi : ∀ k : Nat, k < vis.length → (el vis (k : Int)).2.1.1 ∈ tree ∧ ((el vis (k : Int)).2.1.2 = 1 ∨ (el vis (k : Int)).2.1.2 = -1) ∧ cySt N (el vis (k : Int)).2.1.1 (el vis (k : Int)).2.1.2 = (el vis (k : Int)).2.2 ∧
    cyEn N (el vis (k : Int)).2.1.1 (el vis (k : Int)).2.1.2 = (el vis (k : Int)).1 ∧ ∃ p : Nat, p ≤ k ∧ el evs (p : Int) = (el vis (k : Int)).2.2
theorem Vis.len {N : Net} {tree : List Int} {first : Int} {evs : List Int} {vis : List Vt} {Rd : List Bool} (h : Vis N tree first evs vis Rd) : evs.length = vis.length + 1 := by rw [h.ev]; simp
theorem Vis.at0 {N : Net} {tree : List Int} {first : Int} {evs : List Int} {vis : List Vt} {Rd : List Bool} (h : Vis N tree first evs vis Rd) : el evs 0 = first := by rw [h.ev]; rfl
theorem Vis.atS {N : Net} {tree : List Int} {first : Int} {evs : List Int} {vis : List Vt} {Rd : List Bool} (h : Vis N tree first evs vis Rd) {k : Nat} (hk : k < vis.length) : el evs ((k + 1 : Nat) : Int) = (el vis (k : Int)).1 := by
  rw [h.ev, el_consS]; simp [el, hk]
theorem Vis.inj {N : Net} {tree : List Int} {first : Int} {evs : List Int} {vis : List Vt} {Rd : List Bool} (h : Vis N tree first evs vis Rd) {i j : Nat} (hi : i < evs.length) (hj : j < evs.length) (he : el evs (i : Int) = el evs (j : Int)) : i = j := by
  have := h.nd
  rw [List.nodup_iff_pairwise_ne, List.pairwise_iff_getElem] at this
  have e1 : el evs (i : Int) = evs[i] := by simp [el, hi]
  have e2 : el evs (j : Int) = evs[j] := by simp [el, hj]
  rcases Nat.lt_trichotomy i j with c | c | c
  · exact absurd (e1.symm.trans (he.trans e2)) (this i j hi hj c)
  · exact c
  · exact absurd (e2.symm.trans (he.symm.trans e1)) (this j i hj hi c)
theorem Vis.start {N : Net} {tree : List Int} {first : Int} (h0 : 0 ≤ first) (h1 : first < N.evs.length) : Vis N tree first [first] [] ((List.replicate N.evs.length false).set first.toNat true) := by
  refine ⟨rfl, by simp, fun x x0 x1 => ?_, fun x hx => ?_, by simp, fun k hk => by simp at hk⟩
  · rw [List.mem_singleton]
    by_cases e : x = first
    · rw [e, elSetS h0 (by simpa using h1)]; simp
    · rw [elSetN h0 x0 e, elRep x0 x1]; simp [e]
  · rw [List.mem_singleton.1 hx]; exact ⟨h0, h1⟩
theorem Vis.add {N : Net} {tree : List Int} {first : Int} {evs : List Int} {vis : List Vt} {Rd : List Bool} (h : Vis N tree first evs vis Rd) {e : Int} {p : Int × Int} {f : Int} (e0 : 0 ≤ e) (e1 : e < N.evs.length) (hn : el Rd e = false) (hp : p.1 ∈ tree) (hs : p.2 = 1 ∨ p.2 = -1)
    (h1 : cySt N p.1 p.2 = f) (h2 : cyEn N p.1 p.2 = e) {i : Nat} (hi : i < evs.length) (hf : el evs (i : Int) = f) : Vis N tree first (evs ++ [e]) (vis ++ [(e, p, f)]) (Rd.set e.toNat true) := by
  have hne : ¬ e ∈ evs := fun hm => by rw [(h.rd e e0 e1).2 hm] at hn; cases hn
  have hrl := h.rl
  have hlen := h.len
  refine ⟨by rw [h.ev]; simp, by simp [hrl], fun x x0 x1 => ?_, fun x hx => ?_, ?_, fun k hk => ?_⟩
  · rw [List.mem_append, List.mem_singleton]
    by_cases q : x = e
    · rw [q, elSetS e0 (by omega)]; simp
    · rw [elSetN e0 x0 q, h.rd x x0 x1]; simp [q]
  · rcases List.mem_append.1 hx with q | q
    · exact h.rng x q
    · rw [List.mem_singleton.1 q]; exact ⟨e0, e1⟩
  · rw [List.nodup_append]
    refine ⟨h.nd, by simp, fun a ha b hb => ?_⟩
    rw [List.mem_singleton.1 hb]; intro q; exact hne (q ▸ ha)
  · rw [List.length_append, List.length_singleton] at hk
    by_cases q : k = vis.length
    · subst q
      rw [el_app2]
      exact ⟨hp, hs, h1, h2, i, by omega, by rw [el_app1 hi]; exact hf⟩
    · rw [el_app1 (by omega)]
      obtain ⟨a1, a2, a3, a4, c, a5, a6⟩ := h.vi k (by omega)
      exact ⟨a1, a2, a3, a4, c, a5, by rw [el_app1 (by omega)]; exact a6⟩
/-- No arc twice. -/
theorem Vis.arcs {N : Net} {tree : List Int} {first : Int} {evs : List Int} {vis : List Vt} {Rd : List Bool} (h : Vis N tree first evs vis Rd) {i j : Nat} (hij : i < j) (hj : j < vis.length) : (el vis (i : Int)).2.1.1 ≠ (el vis (j : Int)).2.1.1 := by
  intro he
  have hlen := h.len
  obtain ⟨_, a2, a3, a4, c, a5, a6⟩ := h.vi i (by omega)
  obtain ⟨_, b2, b3, b4, d, b5, b6⟩ := h.vi j hj
  have ej := h.atS hj
  have ei := h.atS (show i < vis.length by omega)
  have key : (el vis (j : Int)).1 = (el vis (i : Int)).2.2 ∨ (el vis (j : Int)).1 = (el vis (i : Int)).1 := by
    rw [← b4, ← a3, ← a4, he]
    unfold cySt cyEn
    rcases a2 with e1 | e1 <;> rcases b2 with e2 | e2 <;> rw [e1, e2] <;> simp
  rcases key with q | q
  · have := h.inj (i := j + 1) (j := c) (by omega) (by omega) (by rw [ej, a6, q]); omega
  · have := h.inj (i := j + 1) (j := i + 1) (by omega) (by omega) (by rw [ej, ei, q]); omega
/-- All that was met hangs together by the arcs met. -/
theorem Vis.hang {N : Net} {tree : List Int} {first : Int} {evs : List Int} {vis : List Vt} {Rd : List Bool} (h : Vis N tree first evs vis Rd) {S : List Int} (hS : ∀ k : Nat, k < vis.length → (el vis (k : Int)).2.1.1 ∈ S) : ∀ k : Nat, k < evs.length → conB (S.map (el N.acts)) first (el evs (k : Int)) = true := by
  intro k
  have hlen := h.len
  induction k using Nat.strongRecOn with
  | ind k ih =>
    intro hk
    cases k with
    | zero => rw [show ((0 : Nat) : Int) = 0 from rfl, h.at0]; exact (con_eqk _).refl _
    | succ k =>
      obtain ⟨_, a2, a3, a4, c, a5, a6⟩ := h.vi k (by omega)
      rw [h.atS (by omega)]
      have h1 := ih c (by omega) (by omega)
      have h2 := arc_con (N := N) (hS k (by omega)) a2
      rw [a3, a4] at h2
      rw [a6] at h1
      exact (con_eqk _).trans _ _ _ h1 h2
theorem FoA.nodup {N : Net} {tree : List Int} (h : FoA N tree tree.length) : tree.Nodup := by
  have mono : ∀ i j : Nat, i < j → j < tree.length → el tree (i : Int) < el tree (j : Int) := by
    intro i j hij
    induction j with
    | zero => omega
    | succ j ih =>
      intro hj
      have := h.asc j hj
      by_cases e : i = j
      · subst e; exact this
      · exact Int.lt_trans (ih (by omega) (by omega)) this
  rw [List.nodup_iff_pairwise_ne, List.pairwise_iff_getElem]
  intro i j hi hj hij e
  have := mono i j hij hj
  simp [el, hi, hj, e] at this
/-- The ends of an activity of a forest are not joined by other ones of it. -/
theorem fo_bridge {N : Net} {tree : List Int} (hN : NetOk N) (h : FoA N tree tree.length) {a : Int} (ha : a ∈ tree) {S : List Int} (hS : ∀ x ∈ S, x ∈ tree ∧ x ≠ a) : conB (S.map (el N.acts)) (el N.acts a).fr (el N.acts a).tt = false := by
  have hnd := h.nodup
  have hmem : ∀ x ∈ tree, 0 ≤ x ∧ x < N.acts.length := fun x hx => by
    obtain ⟨i, hi, rfl⟩ := List.getElem_of_mem hx
    have := h.rng i hi
    simpa [el, hi] using this
  have hE : (tree.erase a).length + 1 = tree.length := by
    have h1 := List.length_erase_of_mem ha
    have h2 : 0 < tree.length := List.length_pos_of_mem ha
    omega
  have hin : ∀ x ∈ tree.map (el N.acts), AcIn N.evs.length x := fun x hx => by
    obtain ⟨y, hy, rfl⟩ := List.mem_map.1 hx
    have hr := hmem y hy
    have ok := hN.acs _ (el_mem hr.1 hr.2)
    exact ⟨ok.f0, ok.f1, ok.t0, ok.t1⟩
  have elM : ∀ (l : List Int) (q : Nat), q < l.length → el (l.map (el N.acts)) (q : Int) = el N.acts (el l (q : Int)) := fun l q hq => by simp [el, hq]
  have np := new_perm (l := tree.map (el N.acts)) (l' := (tree.erase a ++ [a]).map (el N.acts)) hin
    (fun x hx => by
      obtain ⟨y, hy, rfl⟩ := List.mem_map.1 hx
      refine List.mem_map.2 ⟨y, ?_, rfl⟩
      by_cases e : y = a
      · rw [e]; simp
      · exact List.mem_append.2 (.inl ((List.mem_erase_of_ne e).2 hy)))
    (fun x hx => by
      obtain ⟨y, hy, rfl⟩ := List.mem_map.1 hx
      refine List.mem_map.2 ⟨y, ?_, rfl⟩
      rcases List.mem_append.1 hy with q | q
      · exact List.mem_of_mem_erase q
      · rw [List.mem_singleton.1 q]; exact ha)
    (by simp; omega)
    (fun q hq => by
      rw [List.length_map] at hq
      rw [← List.map_take, elM _ _ hq]; exact h.new q hq)
    (tree.erase a).length (by simp)
  rw [← List.map_take, List.take_left, elM _ _ (by simp), el_app2] at np
  cases e : conB (S.map (el N.acts)) (el N.acts a).fr (el N.acts a).tt with
  | false => rfl
  | true =>
    have := con_sub (l' := (tree.erase a).map (el N.acts)) (fun x hx => by
      obtain ⟨y, hy, rfl⟩ := List.mem_map.1 hx
      have := hS y hy
      exact con_mem (List.mem_map.2 ⟨y, (List.mem_erase_of_ne this.2).2 this.1, rfl⟩)) e
    rw [np] at this; cases this
/-- Every activity of the forest in reach was gone along. -/
theorem Vis.all {N : Net} {tree : List Int} {first : Int} {evs : List Int} {vis : List Vt} {Rd : List Bool} (h : Vis N tree first evs vis Rd) (hN : NetOk N) (hf : FoA N tree tree.length) {a : Int} (ha : a ∈ tree) (h1 : (el N.acts a).fr ∈ evs) (h2 : (el N.acts a).tt ∈ evs) : ∃ k : Nat, k < vis.length ∧ (el vis (k : Int)).2.1.1 = a := by
  by_cases hx : ∃ k : Nat, k < vis.length ∧ (el vis (k : Int)).2.1.1 = a
  · exact hx
  · have hb := fo_bridge hN hf ha (S := vis.map fun v => v.2.1.1) (fun x hx' => by
      obtain ⟨v, hv, rfl⟩ := List.mem_map.1 hx'
      obtain ⟨k, hk, rfl⟩ := List.getElem_of_mem hv
      have e : el vis (k : Int) = vis[k] := by simp [el, hk]
      have := h.vi k hk
      rw [e] at this
      exact ⟨this.1, fun q => hx ⟨k, hk, by rw [e]; exact q⟩⟩)
    have hS : ∀ k : Nat, k < vis.length → (el vis (k : Int)).2.1.1 ∈ vis.map fun v => v.2.1.1 := fun k hk => List.mem_map.2 ⟨el vis (k : Int), el_mem (by omega) (by omega), rfl⟩
    have at_ : ∀ x ∈ evs, conB ((vis.map fun v => v.2.1.1).map (el N.acts)) first x = true := fun x hx => by
      obtain ⟨i, hi, rfl⟩ := List.getElem_of_mem hx
      have := h.hang hS i hi
      simpa [el, hi] using this
    have := (con_eqk _).trans _ _ _ ((con_eqk _).symm _ _ (at_ _ h1)) (at_ _ h2)
    rw [hb] at this; cases this
/-- What was met is the component. -/
theorem Vis.comp {N : Net} {tree : List Int} {first : Int} {evs : List Int} {vis : List Vt} {Rd : List Bool} (h : Vis N tree first evs vis Rd) (hc : ∀ a ∈ tree, ((el N.acts a).fr ∈ evs ↔ (el N.acts a).tt ∈ evs)) (x : Int) : x ∈ evs ↔ conB (tree.map (el N.acts)) first x = true := by
  constructor
  · intro hx
    obtain ⟨i, hi, rfl⟩ := List.getElem_of_mem hx
    have := h.hang (S := tree) (fun k hk => (h.vi k hk).1) i hi
    simpa [el, hi] using this
  · intro hx
    have := con_clo (S := fun z => decide (z ∈ evs)) (tree.map (el N.acts)) (fun a ha => by
      obtain ⟨t, ht, rfl⟩ := List.mem_map.1 ha
      exact decide_eq_decide.2 (hc t ht)) _ _ hx
    have hf : first ∈ evs := by rw [h.ev]; exact List.mem_cons_self
    rw [decide_eq_true hf] at this
    exact of_decide_eq_true this.symm
end Go.Wk
