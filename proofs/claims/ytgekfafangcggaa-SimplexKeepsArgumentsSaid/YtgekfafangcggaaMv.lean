/-
  Moves of the simplex method as plain data: times shifted on one side of a cut, the forest with one activity exchanged, the best move, moves again and again.
-/
import Derived.Test.YtgekfafangcggaaSd
import Derived.Test.YtgekfafangcggaaSz
namespace Go.Wk
set_option linter.unusedVariables false
set_option linter.unusedSimpArgs false

/-! ### Times shifted on one side -/
def shT (N : Net) (m : List Bool) (t : List Int) (by_ : Int) : List Int := (List.range t.length).map fun (i : Nat) => if el m (i : Int) = true then (el t (i : Int) + by_) % N.p else el t (i : Int)
theorem shT_len {N : Net} {m : List Bool} {t : List Int} {b : Int} : (shT N m t b).length = t.length := by simp [shT]
theorem shT_el {N : Net} {m : List Bool} {t : List Int} {b i : Int} (h0 : 0 ≤ i) (h1 : i < t.length) : el (shT N m t b) i = if el m i = true then (el t i + b) % N.p else el t i := by
  obtain ⟨j, rfl⟩ := Int.eq_ofNat_of_zero_le h0
  have : j < t.length := by omega
  simp [shT, el, this]
theorem shT_mod {N : Net} {m : List Bool} {t : List Int} {b : Int} : shT N m t (b % N.p) = shT N m t b := by
  unfold shT
  refine List.map_congr_left fun i hi => ?_
  split
  · rw [Int.add_emod_emod]
  · rfl
/-- What the slack becomes. -/
def afS (N : Net) (m : List Bool) (t : List Int) (b : Int) (a : Ac) : Int := if el m a.fr = true then (slk N t a - b) % N.p else (slk N t a + b) % N.p
def xsB (m : List Bool) (a : Ac) : Bool := el m a.fr != el m a.tt
theorem slk_sh {N : Net} {m : List Bool} {t : List Int} {b : Int} {a : Ac} (hg : GoodT N t) (ok : AcOk N a) : slk N (shT N m t b) a = if xsB m a = true then afS N m t b a else slk N t a := by
  have hl := hg.len
  have e1 := shT_el (N := N) (m := m) (t := t) (b := b) ok.f0 (by have := ok.f1; omega)
  have e2 := shT_el (N := N) (m := m) (t := t) (b := b) ok.t0 (by have := ok.t1; omega)
  have q1 : ∀ x : Int, ((x % N.p) - el t a.fr - a.mn) % N.p = (x - el t a.fr - a.mn) % N.p := fun x => by
    rw [Int.sub_sub, Int.sub_sub, Int.emod_sub_emod]
  have q2 : ∀ x y : Int, (y - (x % N.p) - a.mn) % N.p = (y - x - a.mn) % N.p := fun x y => by
    rw [show y - (x % N.p) - a.mn = (y - a.mn) - (x % N.p) by omega, Int.sub_emod_emod, show (y - a.mn) - x = y - x - a.mn by omega]
  have q3 : ∀ x y : Int, ((y % N.p) - (x % N.p) - a.mn) % N.p = (y - x - a.mn) % N.p := fun x y => by
    rw [q2 x (y % N.p), show (y % N.p) - x - a.mn = (y % N.p) - (x + a.mn) by omega, Int.emod_sub_emod, show y - (x + a.mn) = y - x - a.mn by omega]
  unfold slk xsB afS
  rw [e1, e2]
  cases h1 : el m a.fr <;> cases h2 : el m a.tt
  · simp [slk]
  · simp [slk]
    rw [q1, show el t a.tt + b - el t a.fr - a.mn = (el t a.tt - el t a.fr - a.mn) + b by omega]
  · simp [slk]
    rw [q2, show el t a.tt - (el t a.fr + b) - a.mn = (el t a.tt - el t a.fr - a.mn) - b by omega]
  · simp
    rw [q3, show el t a.tt + b - (el t a.fr + b) - a.mn = el t a.tt - el t a.fr - a.mn by omega]
theorem good_sh {N : Net} {m : List Bool} {t : List Int} {b : Int} (hg : GoodT N t) : GoodT N (shT N m t b) := by
  have hp := hg.ok.p2
  refine ⟨hg.ok, by rw [shT_len]; exact hg.len, fun x hx => ?_⟩
  obtain ⟨i, hi, rfl⟩ := List.getElem_of_mem hx
  rw [shT_len] at hi
  have e := shT_el (N := N) (m := m) (t := t) (b := b) (i := (i : Int)) (by omega) (by omega)
  have e2 : el (shT N m t b) (i : Int) = (shT N m t b)[i]'(by rw [shT_len]; exact hi) := by simp [el, shT_len, hi]
  rw [← e2, e]
  split
  · have := Int.emod_nonneg (el t (i : Int) + b) (b := N.p) (by omega)
    have := Int.emod_lt_of_pos (el t (i : Int) + b) (b := N.p) (by omega)
    omega
  · exact hg.rng _ (el_mem (by omega) (by omega))
def costD (N : Net) (t : List Int) : Int := sumC (fun a => a.wt * durA N t a) N.acts
def gnT (N : Net) (m : List Bool) (t : List Int) (b : Int) (a : Ac) : Int := if xsB m a = true then a.wt * (afS N m t b a - slk N t a) else 0
def gnC (N : Net) (m : List Bool) (t : List Int) (b : Int) : Int := sumC (gnT N m t b) N.acts
def gnOk (N : Net) (m : List Bool) (t : List Int) (b : Int) : Bool := N.acts.all fun a => !xsB m a || decide (afS N m t b a ≤ a.mx - a.mn)
theorem sumC_add (f g : Ac → Int) : ∀ l : List Ac, sumC (fun a => f a + g a) l = sumC f l + sumC g l
  | [] => rfl
  | a :: r => by rw [sumC, sumC, sumC, sumC_add f g r]; omega
theorem cost_sh {N : Net} {m : List Bool} {t : List Int} {b : Int} (hg : GoodT N t) : costD N (shT N m t b) = costD N t + gnC N m t b := by
  unfold costD gnC
  rw [← sumC_add]
  refine sumC_congr _ fun a ha => ?_
  show a.wt * durA N (shT N m t b) a = a.wt * durA N t a + gnT N m t b a
  rw [dur_slk, dur_slk, slk_sh hg (hg.ok.acs a ha)]
  unfold gnT
  split
  · rw [Int.mul_add, Int.mul_add, Int.mul_sub]; omega
  · omega
theorem feas_sh {N : Net} {m : List Bool} {t : List Int} {b : Int} (hf : feas N t = true) : feas N (shT N m t b) = gnOk N m t b := by
  obtain ⟨hg, hs⟩ := feas_iff.1 hf
  rw [Bool.eq_iff_iff, feas_iff]
  unfold gnOk
  rw [List.all_eq_true]
  constructor
  · rintro ⟨_, h⟩ a ha
    have := h a ha
    rw [slk_sh hg (hg.ok.acs a ha)] at this
    cases hx : xsB m a
    · simp
    · rw [hx] at this; simpa using this
  · intro h
    refine ⟨good_sh hg, fun a ha => ?_⟩
    rw [slk_sh hg (hg.ok.acs a ha)]
    have := h a ha
    split
    · rename_i hx; rw [hx] at this; simpa using this
    · exact hs a ha

/-! ### A move -/
def moveD (N : Net) (tree t : List Int) (out into : Int) : Int := if el (sdL N tree out) (el N.acts into).fr = true then slk N t (el N.acts into) else -slk N t (el N.acts into)
def moveT (N : Net) (tree t : List Int) (out into : Int) : List Int := shT N (sdL N tree out) t (moveD N tree t out into)
def moveF (N : Net) (tree : List Int) (out into : Int) : List Int := ((List.range N.acts.length).map fun (i : Nat) => (i : Int)).filter fun i => decide (i = into ∨ (i ≠ out ∧ i ∈ tree))
/-- The move can be made at all. -/
structure MvA (N : Net) (tree : List Int) (out into : Int) : Prop where
  hm : out ∈ tree
  i0 : 0 ≤ into
  i1 : into < N.acts.length
  ne : into ≠ out
  xs : xsB (sdL N tree out) (el N.acts into) = true
theorem moveF_mem {N : Net} {tree : List Int} {out into x : Int} : x ∈ moveF N tree out into ↔ (0 ≤ x ∧ x < N.acts.length) ∧ (x = into ∨ (x ≠ out ∧ x ∈ tree)) := by
  unfold moveF
  rw [List.mem_filter, decide_eq_true_eq]
  refine and_congr_left fun _ => ?_
  rw [List.mem_map]
  constructor
  · rintro ⟨i, hi, rfl⟩; have := List.mem_range.1 hi; omega
  · rintro ⟨h0, h1⟩; exact ⟨x.toNat, List.mem_range.2 (by omega), by omega⟩
theorem moveF_pw {N : Net} {tree : List Int} {out into : Int} : (moveF N tree out into).Pairwise (· < ·) := by
  unfold moveF
  refine List.Pairwise.filter _ ?_
  rw [List.pairwise_map]
  exact List.Pairwise.imp (fun h => by omega) (List.pairwise_lt_range)
/-- Two ascending lists with the same elements are one. -/
theorem asc_uniq : ∀ {a b : List Int}, a.Pairwise (· < ·) → b.Pairwise (· < ·) → (∀ x, x ∈ a ↔ x ∈ b) → a = b
  | [], [], _, _, _ => rfl
  | [], y :: b, _, _, h => absurd ((h y).2 (List.mem_cons_self ..)) (List.not_mem_nil)
  | x :: a, [], _, _, h => absurd ((h x).1 (List.mem_cons_self ..)) (List.not_mem_nil)
  | x :: a, y :: b, ha, hb, h => by
    obtain ⟨a1, a2⟩ := List.pairwise_cons.1 ha
    obtain ⟨b1, b2⟩ := List.pairwise_cons.1 hb
    have e : x = y := by
      have h1 := (h x).1 (List.mem_cons_self ..)
      have h2 := (h y).2 (List.mem_cons_self ..)
      rcases List.mem_cons.1 h1 with q | q
      · exact q
      · rcases List.mem_cons.1 h2 with r | r
        · exact r.symm
        · have := a1 y r; have := b1 x q; omega
    subst e
    rw [asc_uniq a2 b2 (fun z => ?_)]
    have hz := h z
    constructor
    · intro hm
      rcases List.mem_cons.1 (hz.1 (List.mem_cons_of_mem _ hm)) with q | q
      · subst q; have := a1 z hm; omega
      · exact q
    · intro hm
      rcases List.mem_cons.1 (hz.2 (List.mem_cons_of_mem _ hm)) with q | q
      · subst q; have := b1 z hm; omega
      · exact q
theorem MvA.notin {N : Net} {tree : List Int} {out into : Int} (h : MvA N tree out into) (hf : FoOk N tree) : ¬ into ∈ tree := fun hm => by
  have ok := hf.ok.acs _ (el_mem h.i0 h.i1)
  have hx := h.xs
  unfold xsB at hx
  rw [sdL_el ok.f0 ok.f1, sdL_el ok.t0 ok.t1, side_keep hm h.ne] at hx
  simp at hx
/-- The exchange in the list of the forest, sorted. -/
theorem sort_mvF {N : Net} {tree : List Int} {out into : Int} {i : Int} (h : MvA N tree out into) (hf : FoOk N tree) (i0 : 0 ≤ i) (i1 : i < tree.length) (hi : el tree i = out) : (tree.set i.toNat into).mergeSort (fun x y => decide (x ≤ y)) = moveF N tree out into := by
  have hn := h.notin hf
  have hpw := hf.pw
  have hset : ∀ x, x ∈ tree.set i.toNat into ↔ x = into ∨ (x ≠ out ∧ x ∈ tree) := fun x => by
    rw [List.mem_iff_getElem]
    constructor
    · rintro ⟨k, hk, rfl⟩
      rw [List.length_set] at hk
      by_cases e : i.toNat = k
      · left; simp [e]
      · right
        rw [List.getElem_set_ne e]
        refine ⟨fun q => ?_, List.getElem_mem _⟩
        have hne : el tree (k : Int) ≠ el tree i := by
          obtain ⟨j, rfl⟩ := Int.eq_ofNat_of_zero_le i0
          rcases Nat.lt_or_ge k j with l | l
          · have := hf.inj k j l (by omega); omega
          · have := hf.inj j k (by omega) (by omega); omega
        exact hne (by rw [hi]; simpa [el, hk] using q)
    · rintro (rfl | ⟨hne, hm⟩)
      · exact ⟨i.toNat, by rw [List.length_set]; omega, by simp⟩
      · obtain ⟨k, hk, rfl⟩ := List.getElem_of_mem hm
        refine ⟨k, by rw [List.length_set]; exact hk, ?_⟩
        have : i.toNat ≠ k := fun e => hne (by
          have q : i = (k : Int) := by omega
          rw [← hi, q]; simp [el, hk])
        rw [List.getElem_set_ne this]
  have hnd : (tree.set i.toNat into).Nodup := by
    have hnt : tree.Nodup := hpw.imp (fun h => by omega)
    rw [List.nodup_iff_pairwise_ne, List.pairwise_iff_getElem]
    intro a b ha hb hab
    rw [List.length_set] at ha hb
    have hn1 : ∀ k (hk : k < tree.length), tree[k] ≠ into := fun k hk e => hn (e ▸ List.getElem_mem _)
    rw [List.getElem_set, List.getElem_set]
    split <;> split
    · omega
    · exact fun e => hn1 b hb e.symm
    · exact hn1 a ha
    · exact List.pairwise_iff_getElem.1 hnt a b ha hb hab
  have hp := List.mergeSort_perm (tree.set i.toNat into) (fun x y => decide (x ≤ y))
  have hs := List.pairwise_mergeSort (le := fun x y : Int => decide (x ≤ y)) (fun a b c h1 h2 => by simp at h1 h2 ⊢; omega) (fun a b => by simp; omega) (tree.set i.toNat into)
  refine asc_uniq ?_ moveF_pw (fun x => ?_)
  · have h2 := hp.symm.nodup hnd
    rw [List.nodup_iff_pairwise_ne] at h2
    exact (hs.and h2).imp (fun h => by have := h.1; have := h.2; simp at *; omega)
  · rw [hp.mem_iff, hset, moveF_mem]
    constructor
    · rintro (rfl | ⟨h1, h2⟩)
      · exact ⟨⟨h.i0, h.i1⟩, .inl rfl⟩
      · exact ⟨hf.mem x h2, .inr ⟨h1, h2⟩⟩
    · rintro ⟨_, h1⟩; exact h1
/-- The forest spans again. -/
theorem fo_mvF {N : Net} {tree : List Int} {out into : Int} (h : MvA N tree out into) (hf : FoOk N tree) : FoOk N (moveF N tree out into) := by
  have ok := hf.ok.acs _ (el_mem h.i0 h.i1)
  have hn := h.notin hf
  have hfl := filt_len hf.pw h.hm
  have eK := con_eqk (offA N tree out)
  have hx := h.xs
  unfold xsB at hx
  rw [sdL_el ok.f0 ok.f1, sdL_el ok.t0 ok.t1] at hx
  have hne : sideB N tree out (el N.acts into).fr ≠ sideB N tree out (el N.acts into).tt := by simpa using hx
  have hsep : conB (offA N tree out) (el N.acts into).fr (el N.acts into).tt = false := by
    cases hc : conB (offA N tree out) (el N.acts into).fr (el N.acts into).tt with
    | false => rfl
    | true =>
      exfalso; apply hne
      rw [Bool.eq_iff_iff]
      exact ⟨fun q => eK.trans _ _ _ q hc, fun q => eK.trans _ _ _ q (eK.symm _ _ hc)⟩
  -- the same elements
  have hin : ∀ a, a ∈ (moveF N tree out into).map (el N.acts) ↔ a ∈ offA N tree out ++ [el N.acts into] := fun a => by
    rw [List.mem_append, List.mem_singleton]
    constructor
    · intro hm
      obtain ⟨x, hx, rfl⟩ := List.mem_map.1 hm
      rcases (moveF_mem.1 hx).2 with rfl | ⟨h1, h2⟩
      · exact .inr rfl
      · exact .inl (off_mem h2 h1)
    · rintro (hm | rfl)
      · obtain ⟨x, hx, h1, rfl⟩ := off_inv hm
        exact List.mem_map.2 ⟨x, moveF_mem.2 ⟨hf.mem x hx, .inr ⟨h1, hx⟩⟩, rfl⟩
      · exact List.mem_map.2 ⟨into, moveF_mem.2 ⟨⟨h.i0, h.i1⟩, .inl rfl⟩, rfl⟩
  have hlen : (moveF N tree out into).length = tree.length := by
    have hp : (moveF N tree out into).Perm ((tree.filter fun t => decide (t ≠ out)) ++ [into]) := by
      have hnf : (tree.filter fun t => decide (t ≠ out)).Nodup := (hf.pw.imp (fun h => by omega) : tree.Nodup).filter _
      refine (List.perm_ext_iff_of_nodup (moveF_pw.imp (fun h => by omega)) ?_).2 (fun x => ?_)
      · rw [List.nodup_append]
        refine ⟨hnf, (by simp), fun a ha b hb => ?_⟩
        rw [List.mem_singleton.1 hb]
        rintro rfl
        exact hn (List.mem_filter.1 ha).1
      · rw [moveF_mem, List.mem_append, List.mem_singleton, List.mem_filter]
        simp only [decide_eq_true_eq]
        constructor
        · rintro ⟨_, rfl | ⟨h1, h2⟩⟩
          · exact .inr rfl
          · exact .inl ⟨h2, h1⟩
        · rintro (⟨h1, h2⟩ | rfl)
          · exact ⟨hf.mem x h1, .inr ⟨h2, h1⟩⟩
          · exact ⟨⟨h.i0, h.i1⟩, .inl rfl⟩
    rw [hp.length_eq, List.length_append, List.length_singleton, hfl]
  -- the rest of the forest is new, arc by arc, and so is the activity behind it
  have hold := new_perm (l := tree.map (el N.acts)) (l' := offA N tree out ++ [el N.acts out]) hf.acin (fun a hm => by
      obtain ⟨t, ht, rfl⟩ := List.mem_map.1 hm
      by_cases e : t = out
      · subst e; exact List.mem_append_right _ (List.mem_singleton.2 rfl)
      · exact List.mem_append_left _ (off_mem ht e)) (fun a hm => by
      rcases List.mem_append.1 hm with q | q
      · obtain ⟨t, ht, _, rfl⟩ := off_inv q; exact List.mem_map.2 ⟨t, ht, rfl⟩
      · rw [List.mem_singleton.1 q]; exact List.mem_map.2 ⟨out, h.hm, rfl⟩) (by simp only [List.length_map, List.length_append, offA, List.length_cons, List.length_nil]; omega) hf.new
  have hnew : ∀ q : Nat, q < (offA N tree out ++ [el N.acts into]).length → conB ((offA N tree out ++ [el N.acts into]).take q) (el (offA N tree out ++ [el N.acts into]) (q : Int)).fr (el (offA N tree out ++ [el N.acts into]) (q : Int)).tt = false := by
    intro q hq
    rw [List.length_append, List.length_singleton] at hq
    by_cases e : q = (offA N tree out).length
    · subst e
      have e2 : el (offA N tree out ++ [el N.acts into]) ((offA N tree out).length : Int) = el N.acts into := by simp [el]
      rw [e2, List.take_left]; exact hsep
    · have hq' : q < (offA N tree out).length := by omega
      have := hold q (by rw [List.length_append]; omega)
      have g1 : el (offA N tree out ++ [el N.acts out]) (q : Int) = el (offA N tree out) (q : Int) := by simp [el, List.getElem?_append_left hq']
      have g2 : el (offA N tree out ++ [el N.acts into]) (q : Int) = el (offA N tree out) (q : Int) := by simp [el, List.getElem?_append_left hq']
      rw [g1, List.take_append_of_le_length (by omega)] at this
      rw [g2, List.take_append_of_le_length (by omega)]
      exact this
  have hacin : ∀ a ∈ offA N tree out ++ [el N.acts into], AcIn N.evs.length a := fun a ha => by
    rcases List.mem_append.1 ha with q | q
    · obtain ⟨t, ht, _, rfl⟩ := off_inv q; exact hf.acin _ (List.mem_map.2 ⟨t, ht, rfl⟩)
    · rw [List.mem_singleton.1 q]; exact ⟨ok.f0, ok.f1, ok.t0, ok.t1⟩
  have hnw := new_perm (l := offA N tree out ++ [el N.acts into]) (l' := (moveF N tree out into).map (el N.acts)) hacin (fun a ha => (hin a).2 ha) (fun a ha => (hin a).1 ha) (by rw [List.length_map, hlen, List.length_append, List.length_singleton, offA, List.length_map, hfl]) hnew
  have hcon : conB ((moveF N tree out into).map (el N.acts)) = conB (offA N tree out ++ [el N.acts into]) := con_ext (fun a ha => (hin a).1 ha) (fun a ha => (hin a).2 ha)
  have hct : conB (tree.map (el N.acts)) = conB (offA N tree out ++ [el N.acts out]) := con_ext (fun a hm => by
      obtain ⟨t, ht, rfl⟩ := List.mem_map.1 hm
      by_cases e : t = out
      · subst e; exact List.mem_append_right _ (List.mem_singleton.2 rfl)
      · exact List.mem_append_left _ (off_mem ht e)) (fun a hm => by
      rcases List.mem_append.1 hm with q | q
      · obtain ⟨t, ht, _, rfl⟩ := off_inv q; exact List.mem_map.2 ⟨t, ht, rfl⟩
      · rw [List.mem_singleton.1 q]; exact List.mem_map.2 ⟨out, h.hm, rfl⟩)
  -- the activity that was taken out is joined again
  have hjo : conB (offA N tree out ++ [el N.acts into]) (el N.acts out).fr (el N.acts out).tt = true := by
    have hsp := hf.span into.toNat (by have := h.i1; have := h.i0; omega)
    rw [Int.toNat_of_nonneg h.i0, hct, conB_snoc, join_iff, hsep] at hsp
    rw [conB_snoc, join_iff]
    rcases hsp with (q | ⟨q1, q2⟩) | ⟨q1, q2⟩
    · cases q
    · exact .inl (.inr ⟨eK.symm _ _ q1, eK.symm _ _ q2⟩)
    · exact .inr ⟨eK.symm _ _ q2, eK.symm _ _ q1⟩
  refine ⟨hf.ok, ⟨fun q hq => ?_, fun q hq => ?_, fun q hq => ?_⟩, fun i hi => ?_⟩
  · exact (moveF_mem.1 (el_mem (l := moveF N tree out into) (i := (q : Int)) (by omega) (by omega))).1
  · have := List.pairwise_iff_getElem.1 (moveF_pw (N := N) (tree := tree) (out := out) (into := into)) q (q + 1) (by omega) hq (by omega)
    have hq2 : q < (moveF N tree out into).length := by omega
    simp only [el, Int.toNat_natCast, List.getD_eq_getElem?_getD, List.getElem?_eq_getElem hq2, List.getElem?_eq_getElem hq]
    exact this
  · have := hnw q (by rw [List.length_map]; exact hq)
    have e : el ((moveF N tree out into).map (el N.acts)) (q : Int) = el N.acts (el (moveF N tree out into) (q : Int)) := by simp [el, hq]
    rwa [e, ← List.map_take] at this
  · refine con_sub (l := tree.map (el N.acts)) (fun a ha => ?_) (hf.span i hi)
    rw [hcon]
    obtain ⟨t, ht, rfl⟩ := List.mem_map.1 ha
    by_cases e : t = out
    · rw [e]; exact hjo
    · exact con_mem (List.mem_append_left _ (off_mem ht e))
/-- The activity that enters is tight. -/
theorem mv_tight {N : Net} {tree t : List Int} {out into : Int} (h : MvA N tree out into) (hg : GoodT N t) : slk N (moveT N tree t out into) (el N.acts into) = 0 := by
  have ok := hg.ok.acs _ (el_mem h.i0 h.i1)
  unfold moveT
  rw [slk_sh hg ok, if_pos h.xs]
  unfold afS moveD
  split
  · simp
  · rw [Int.add_neg_eq_sub, Int.sub_self]; simp

/-! ### The best move -/
def moveB (N : Net) (tree t : List Int) (out into : Int) : Bool := decide (into ≠ out) && xsB (sdL N tree out) (el N.acts into) && feas N (moveT N tree t out into)
structure BSt where
  o : Int
  i : Int
  ok : Bool
  c : Int
def bsS (N : Net) (tree t : List Int) (out : Int) (k : Nat) (s : BSt) : BSt := if moveB N tree t out (k : Int) = true ∧ costD N (moveT N tree t out (k : Int)) < s.c then ⟨out, (k : Int), true, costD N (moveT N tree t out (k : Int))⟩ else s
def bsI (N : Net) (tree t : List Int) (out : Int) (s : BSt) : Nat → BSt
  | 0 => s
  | k + 1 => bsS N tree t out k (bsI N tree t out s k)
def bsR (N : Net) (tree t : List Int) : Nat → BSt
  | 0 => ⟨0, 0, false, costD N t⟩
  | i + 1 => bsI N tree t (el tree (i : Int)) (bsR N tree t i) N.acts.length
def bestF (N : Net) (tree t : List Int) : BSt := bsR N tree t tree.length
structure BsOk (N : Net) (tree t : List Int) (s : BSt) : Prop where
  le : s.c ≤ costD N t
  no : s.ok = false → s.c = costD N t
  yes : s.ok = true → MvA N tree s.o s.i ∧ feas N (moveT N tree t s.o s.i) = true ∧ s.c = costD N (moveT N tree t s.o s.i) ∧ s.c < costD N t
theorem BsOk.step {N : Net} {tree t : List Int} {out : Int} {k : Nat} {s : BSt} (h : BsOk N tree t s) (ho : out ∈ tree) (hk : k < N.acts.length) : BsOk N tree t (bsS N tree t out k s) := by
  unfold bsS
  split
  · rename_i hc
    have hb := hc.1
    unfold moveB at hb
    rw [Bool.and_eq_true, Bool.and_eq_true, decide_eq_true_eq] at hb
    have := h.le
    exact ⟨by show costD N _ ≤ _; omega, fun h => (by cases h), fun _ => ⟨⟨ho, by show (0 : Int) ≤ (k : Int); omega, by show (k : Int) < _; omega, hb.1.1, hb.1.2⟩, hb.2, rfl, by show costD N _ < _; omega⟩⟩
  · exact h
theorem BsOk.inner {N : Net} {tree t : List Int} {out : Int} {s : BSt} (h : BsOk N tree t s) (ho : out ∈ tree) : ∀ k : Nat, k ≤ N.acts.length → BsOk N tree t (bsI N tree t out s k)
  | 0, _ => h
  | k + 1, hk => (BsOk.inner h ho k (by omega)).step ho (by omega)
theorem bsR_ok {N : Net} {tree t : List Int} : ∀ i : Nat, i ≤ tree.length → BsOk N tree t (bsR N tree t i)
  | 0, _ => ⟨Int.le_refl _, fun _ => rfl, fun h => by cases h⟩
  | i + 1, hi => (bsR_ok i (by omega)).inner (el_mem (by omega) (by omega)) _ (Nat.le_refl _)
theorem best_ok {N : Net} {tree t : List Int} : BsOk N tree t (bestF N tree t) := bsR_ok _ (Nat.le_refl _)

/-! ### Again and again -/
def smF (N : Net) : Nat → List Int → List Int → List Int × List Int × Nat
  | 0, tr, t => (tr, t, 0)
  | b + 1, tr, t => if (bestF N tr t).ok = true then ((smF N b (moveF N tr (bestF N tr t).o (bestF N tr t).i) (moveT N tr t (bestF N tr t).o (bestF N tr t).i)).1, (smF N b (moveF N tr (bestF N tr t).o (bestF N tr t).i) (moveT N tr t (bestF N tr t).o (bestF N tr t).i)).2.1, (smF N b (moveF N tr (bestF N tr t).o (bestF N tr t).i) (moveT N tr t (bestF N tr t).o (bestF N tr t).i)).2.2 + 1) else (tr, t, 0)
theorem smF_ok {N : Net} : ∀ (b : Nat) (tr t : List Int), FoOk N tr → feas N t = true → FoOk N (smF N b tr t).1 ∧ feas N (smF N b tr t).2.1 = true ∧ (smF N b tr t).2.2 ≤ b ∧ ((smF N b tr t).2.2 = 0 → (smF N b tr t).2.1 = t) ∧ (0 < (smF N b tr t).2.2 → costD N (smF N b tr t).2.1 < costD N t)
  | 0, tr, t, h1, h2 => ⟨h1, h2, Nat.le_refl _, fun _ => rfl, fun h => by simp [smF] at h⟩
  | b + 1, tr, t, h1, h2 => by
    by_cases hk : (bestF N tr t).ok = true
    · have hb := best_ok (N := N) (tree := tr) (t := t)
      obtain ⟨q1, q2, q3, q4⟩ := hb.yes hk
      have ih := smF_ok b _ _ (fo_mvF q1 h1) q2
      rw [smF, if_pos hk]
      refine ⟨ih.1, ih.2.1, by show _ + 1 ≤ _; have := ih.2.2.1; omega, fun h => by simp at h, fun _ => ?_⟩
      show costD N (smF N b _ _).2.1 < _
      rcases Nat.eq_zero_or_pos (smF N b (moveF N tr (bestF N tr t).o (bestF N tr t).i) (moveT N tr t (bestF N tr t).o (bestF N tr t).i)).2.2 with z | z
      · rw [ih.2.2.2.1 z]; omega
      · have := ih.2.2.2.2 z; omega
    · rw [smF, if_neg hk]; exact ⟨h1, h2, Nat.zero_le _, fun _ => rfl, fun h => by simp at h⟩
theorem smF_end {N : Net} : ∀ (b : Nat) (tr t : List Int), (smF N b tr t).2.2 < b → (bestF N (smF N b tr t).1 (smF N b tr t).2.1).ok = false ∧ ∀ j : Nat, smF N (b + j) tr t = smF N b tr t
  | 0, tr, t, h => by omega
  | b + 1, tr, t, h => by
    by_cases hk : (bestF N tr t).ok = true
    · rw [smF, if_pos hk] at h
      have ih := smF_end b (moveF N tr (bestF N tr t).o (bestF N tr t).i) (moveT N tr t (bestF N tr t).o (bestF N tr t).i) (by simp at h; omega)
      refine ⟨?_, fun j => ?_⟩
      · rw [smF, if_pos hk]; exact ih.1
      · rw [show b + 1 + j = (b + j) + 1 by omega, smF, smF, if_pos hk, if_pos hk, ih.2 j]
    · refine ⟨?_, fun j => ?_⟩
      · rw [smF, if_neg hk]; simpa using hk
      · rw [show b + 1 + j = (b + j) + 1 by omega, smF, smF, if_neg hk, if_neg hk]
end Go.Wk
