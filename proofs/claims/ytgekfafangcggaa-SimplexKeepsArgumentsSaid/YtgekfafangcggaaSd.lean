/-
  Cuts of spanning forests: the side of an activity's end when the activity is taken out.
-/
import Derived.Test.YtgekfafangcggaaTr
namespace Go.Wk
set_option linter.unusedVariables false
set_option linter.unusedSimpArgs false

/-- The forest without an activity, the events that its rest joins to the activity's end, these as a list. -/
def offA (N : Net) (tree : List Int) (arc : Int) : List Ac := (tree.filter fun t => decide (t ≠ arc)).map (el N.acts)
def sideB (N : Net) (tree : List Int) (arc e : Int) : Bool := conB (offA N tree arc) (el N.acts arc).tt e
def sdL (N : Net) (tree : List Int) (arc : Int) : List Bool := (List.range N.evs.length).map fun (e : Nat) => sideB N tree arc (e : Int)
theorem sdL_len {N : Net} {tree : List Int} {arc : Int} : (sdL N tree arc).length = N.evs.length := by simp [sdL]
theorem sdL_el {N : Net} {tree : List Int} {arc e : Int} (h0 : 0 ≤ e) (h1 : e < N.evs.length) : el (sdL N tree arc) e = sideB N tree arc e := by
  obtain ⟨j, rfl⟩ := Int.eq_ofNat_of_zero_le h0
  have : j < N.evs.length := by omega
  simp [sdL, el, this]
theorem off_mem {N : Net} {tree : List Int} {arc t : Int} (h : t ∈ tree) (hne : t ≠ arc) : el N.acts t ∈ offA N tree arc := List.mem_map.2 ⟨t, List.mem_filter.2 ⟨h, by simpa using hne⟩, rfl⟩
theorem off_inv {N : Net} {tree : List Int} {arc : Int} {a : Ac} (h : a ∈ offA N tree arc) : ∃ t ∈ tree, t ≠ arc ∧ el N.acts t = a := by
  obtain ⟨t, h1, h2⟩ := List.mem_map.1 h
  obtain ⟨h3, h4⟩ := List.mem_filter.1 h1
  exact ⟨t, h3, by simpa using h4, h2⟩
theorem side_to {N : Net} {tree : List Int} {arc : Int} : sideB N tree arc (el N.acts arc).tt = true := (con_eqk _).refl _
theorem side_keep {N : Net} {tree : List Int} {arc t : Int} (h : t ∈ tree) (hne : t ≠ arc) : sideB N tree arc (el N.acts t).fr = sideB N tree arc (el N.acts t).tt := by
  have e := con_eqk (offA N tree arc)
  have hm := con_mem (off_mem (N := N) h hne)
  rw [Bool.eq_iff_iff]
  exact ⟨fun q => e.trans _ _ _ q hm, fun q => e.trans _ _ _ q (e.symm _ _ hm)⟩
theorem FoOk.inj {N : Net} {tree : List Int} (h : FoOk N tree) : ∀ i j : Nat, i < j → j < tree.length → el tree (i : Int) < el tree (j : Int) := by
  intro i j hij
  induction j with
  | zero => omega
  | succ j ih =>
    intro hj
    have h1 := h.a.asc j (by omega)
    by_cases e : i = j
    · subst e; exact h1
    · have := ih (by omega) (by omega); omega
theorem FoOk.acin {N : Net} {tree : List Int} (h : FoOk N tree) : ∀ a ∈ tree.map (el N.acts), AcIn N.evs.length a := fun a ha => by
  obtain ⟨t, ht, rfl⟩ := List.mem_map.1 ha
  have hm := h.mem t ht
  have ok := h.ok.acs _ (el_mem hm.1 hm.2)
  exact ⟨ok.f0, ok.f1, ok.t0, ok.t1⟩
theorem filt_len {arc : Int} : ∀ {l : List Int}, l.Pairwise (· < ·) → arc ∈ l → (l.filter fun t => decide (t ≠ arc)).length + 1 = l.length
  | [], _, h => by cases h
  | x :: l, hp, h => by
    obtain ⟨h1, h2⟩ := List.pairwise_cons.1 hp
    by_cases e : x = arc
    · subst e
      have : l.filter (fun t => decide (t ≠ x)) = l := List.filter_eq_self.2 fun y hy => by have := h1 y hy; simp; omega
      rw [List.filter_cons_of_neg (by simp), this]; rfl
    · rcases List.mem_cons.1 h with q | q
      · exact absurd q.symm e
      · rw [List.filter_cons_of_pos (by simpa using e), List.length_cons, filt_len h2 q]; rfl
theorem FoOk.pw {N : Net} {tree : List Int} (h : FoOk N tree) : tree.Pairwise (· < ·) := by
  rw [List.pairwise_iff_getElem]
  intro i j hi hj hij
  have := h.inj i j hij hj
  simpa [el, hi, hj] using this
theorem FoOk.new {N : Net} {tree : List Int} (h : FoOk N tree) : ∀ q : Nat, q < (tree.map (el N.acts)).length → conB ((tree.map (el N.acts)).take q) (el (tree.map (el N.acts)) (q : Int)).fr (el (tree.map (el N.acts)) (q : Int)).tt = false := by
  intro q hq
  rw [List.length_map] at hq
  have e : el (tree.map (el N.acts)) (q : Int) = el N.acts (el tree (q : Int)) := by simp [el, hq]
  rw [e, ← List.map_take]
  exact h.a.new q hq
/-- The other end of the activity is not joined any more. -/
theorem side_fr {N : Net} {tree : List Int} {arc : Int} (h : FoOk N tree) (ha : arc ∈ tree) : sideB N tree arc (el N.acts arc).fr = false := by
  have hl := filt_len h.pw ha
  have hn := new_perm (l := tree.map (el N.acts)) (l' := offA N tree arc ++ [el N.acts arc]) h.acin (fun a hm => by
      obtain ⟨t, ht, rfl⟩ := List.mem_map.1 hm
      by_cases e : t = arc
      · subst e; exact List.mem_append_right _ (List.mem_singleton.2 rfl)
      · exact List.mem_append_left _ (off_mem ht e)) (fun a hm => by
      rcases List.mem_append.1 hm with q | q
      · obtain ⟨t, ht, _, rfl⟩ := off_inv q; exact List.mem_map.2 ⟨t, ht, rfl⟩
      · rw [List.mem_singleton.1 q]; exact List.mem_map.2 ⟨arc, ha, rfl⟩) (by simp only [List.length_map, List.length_append, offA, List.length_cons, List.length_nil]; omega) h.new (offA N tree arc).length (by simp)
  have e : el (offA N tree arc ++ [el N.acts arc]) ((offA N tree arc).length : Int) = el N.acts arc := by simp [el]
  rw [e, List.take_left] at hn
  cases hs : sideB N tree arc (el N.acts arc).fr with
  | false => rfl
  | true => rw [(con_eqk _).symm _ _ hs] at hn; cases hn

/-! ### A set that the forest's rest does not leave -/
structure SdI (N : Net) (tree : List Int) (arc : Int) (m : List Bool) : Prop where
  len : m.length = N.evs.length
  st0 : 0 ≤ (el N.acts arc).tt
  st : el m (el N.acts arc).tt = true
  snd : ∀ e : Int, 0 ≤ e → e < N.evs.length → el m e = true → sideB N tree arc e = true
theorem SdI.done {N : Net} {tree : List Int} {arc : Int} {m : List Bool} (h : SdI N tree arc m) (hc : ∀ t ∈ tree, t ≠ arc → el m (el N.acts t).fr = el m (el N.acts t).tt) : m = sdL N tree arc := by
  refine extEl (by rw [h.len, sdL_len]) (fun e e0 e1 => ?_)
  rw [h.len] at e1
  rw [sdL_el e0 e1]
  cases hs : sideB N tree arc e with
  | true =>
    have k := con_clo (S := fun z => el m z) (offA N tree arc) (fun a ha => by
      obtain ⟨t, ht, hne, rfl⟩ := off_inv ha
      exact hc t ht hne) _ _ hs
    rw [← k]; exact h.st
  | false =>
    cases hm : el m e with
    | false => rfl
    | true => rw [h.snd e e0 e1 hm] at hs; cases hs
theorem SdI.start {N : Net} {tree : List Int} {arc : Int} (ok : AcOk N (el N.acts arc)) : SdI N tree arc ((List.replicate N.evs.length false).set (el N.acts arc).tt.toNat true) := by
  refine ⟨by simp, ok.t0, elSetS ok.t0 (by rw [List.length_replicate]; exact ok.t1), fun e e0 e1 he => ?_⟩
  by_cases q : e = (el N.acts arc).tt
  · rw [q]; exact side_to
  · rw [elSetN ok.t0 e0 q, elRep e0 e1] at he; cases he
theorem SdI.put {N : Net} {tree : List Int} {arc x y t : Int} {m : List Bool} (h : SdI N tree arc m) (ht : t ∈ tree) (hne : t ≠ arc) (hxy : (x = (el N.acts t).fr ∧ y = (el N.acts t).tt) ∨ (x = (el N.acts t).tt ∧ y = (el N.acts t).fr)) (x0 : 0 ≤ x) (x1 : x < N.evs.length) (y0 : 0 ≤ y) (y1 : y < N.evs.length) (hx : el m x = true) : SdI N tree arc (m.set y.toNat true) := by
  have hl := h.len
  have hsx := h.snd x x0 x1 hx
  have hk := side_keep (N := N) ht hne
  refine ⟨by simpa using hl, h.st0, ?_, fun e e0 e1 he => ?_⟩
  · by_cases q : (el N.acts arc).tt = y
    · rw [q]; exact elSetS y0 (by omega)
    · rw [elSetN y0 h.st0 q]; exact h.st
  · by_cases q : e = y
    · rw [q]
      rcases hxy with ⟨h1, h2⟩ | ⟨h1, h2⟩
      · rw [h2, ← hk, ← h1]; exact hsx
      · rw [h2, hk, ← h1]; exact hsx
    · rw [elSetN y0 e0 q] at he; exact h.snd e e0 e1 he
/-- A queue of events: what is met and not in it has had its neighbours met; 'x' is at work, its first 'k' activities are done. -/
structure CqJ (N : Net) (tree : List Int) (arc : Int) (m : List Bool) (q : List Int) (x : Int) (k : Nat) : Prop where
  sd : SdI N tree arc m
  qin : ∀ y ∈ q, 0 ≤ y ∧ y < N.evs.length ∧ el m y = true
  xin : 0 ≤ x ∧ x < N.evs.length ∧ el m x = true
  fwd : ∀ j : Nat, j < tree.length → el tree (j : Int) ≠ arc → el m (el N.acts (el tree (j : Int))).fr = true → (el N.acts (el tree (j : Int))).fr ∈ q ∨ el m (el N.acts (el tree (j : Int))).tt = true ∨ ((el N.acts (el tree (j : Int))).fr = x ∧ k ≤ j)
  bwd : ∀ j : Nat, j < tree.length → el tree (j : Int) ≠ arc → el m (el N.acts (el tree (j : Int))).tt = true → (el N.acts (el tree (j : Int))).tt ∈ q ∨ el m (el N.acts (el tree (j : Int))).fr = true ∨ ((el N.acts (el tree (j : Int))).tt = x ∧ k ≤ j)
structure CqI (N : Net) (tree : List Int) (arc : Int) (m : List Bool) (q : List Int) : Prop where
  sd : SdI N tree arc m
  qin : ∀ y ∈ q, 0 ≤ y ∧ y < N.evs.length ∧ el m y = true
  fwd : ∀ j : Nat, j < tree.length → el tree (j : Int) ≠ arc → el m (el N.acts (el tree (j : Int))).fr = true → (el N.acts (el tree (j : Int))).fr ∈ q ∨ el m (el N.acts (el tree (j : Int))).tt = true
  bwd : ∀ j : Nat, j < tree.length → el tree (j : Int) ≠ arc → el m (el N.acts (el tree (j : Int))).tt = true → (el N.acts (el tree (j : Int))).tt ∈ q ∨ el m (el N.acts (el tree (j : Int))).fr = true
theorem CqI.start {N : Net} {tree : List Int} {arc : Int} (ok : AcOk N (el N.acts arc)) (hm : ∀ t ∈ tree, AcOk N (el N.acts t)) : CqI N tree arc ((List.replicate N.evs.length false).set (el N.acts arc).tt.toNat true) [(el N.acts arc).tt] := by
  have hs := SdI.start (tree := tree) ok
  have key : ∀ e : Int, 0 ≤ e → e < N.evs.length → el ((List.replicate N.evs.length false).set (el N.acts arc).tt.toNat true) e = true → e ∈ [(el N.acts arc).tt] := fun e e0 e1 he => by
    by_cases q : e = (el N.acts arc).tt
    · rw [q]; exact List.mem_singleton.2 rfl
    · rw [elSetN ok.t0 e0 q, elRep e0 e1] at he; cases he
  refine ⟨hs, fun y hy => ?_, fun j hj hne he => .inl ?_, fun j hj hne he => .inl ?_⟩
  · rw [List.mem_singleton.1 hy]; exact ⟨ok.t0, ok.t1, hs.st⟩
  · have a := hm _ (el_mem (l := tree) (i := (j : Int)) (by omega) (by omega)); exact key _ a.f0 a.f1 he
  · have a := hm _ (el_mem (l := tree) (i := (j : Int)) (by omega) (by omega)); exact key _ a.t0 a.t1 he
theorem CqI.pop {N : Net} {tree : List Int} {arc x : Int} {m : List Bool} {q : List Int} (h : CqI N tree arc m (x :: q)) : CqJ N tree arc m q x 0 := by
  refine ⟨h.sd, fun y hy => h.qin y (List.mem_cons_of_mem _ hy), h.qin x (List.mem_cons_self ..), fun j hj hne he => ?_, fun j hj hne he => ?_⟩
  · rcases h.fwd j hj hne he with k | k
    · rcases List.mem_cons.1 k with e | e
      · exact .inr (.inr ⟨e, Nat.zero_le _⟩)
      · exact .inl e
    · exact .inr (.inl k)
  · rcases h.bwd j hj hne he with k | k
    · rcases List.mem_cons.1 k with e | e
      · exact .inr (.inr ⟨e, Nat.zero_le _⟩)
      · exact .inl e
    · exact .inr (.inl k)
theorem CqJ.close {N : Net} {tree : List Int} {arc x : Int} {m : List Bool} {q : List Int} {k : Nat} (h : CqJ N tree arc m q x k) (hk : tree.length ≤ k) : CqI N tree arc m q := by
  refine ⟨h.sd, h.qin, fun j hj hne he => ?_, fun j hj hne he => ?_⟩
  · rcases h.fwd j hj hne he with k | k | k
    · exact .inl k
    · exact .inr k
    · omega
  · rcases h.bwd j hj hne he with k | k | k
    · exact .inl k
    · exact .inr k
    · omega
theorem CqI.done {N : Net} {tree : List Int} {arc : Int} {m : List Bool} (h : CqI N tree arc m []) : m = sdL N tree arc := by
  refine h.sd.done (fun t ht hne => ?_)
  obtain ⟨j, hj, rfl⟩ := List.getElem_of_mem ht
  have e : el tree (j : Int) = tree[j] := by simp [el, hj]
  have h1 := h.fwd j hj (by rw [e]; exact hne)
  have h2 := h.bwd j hj (by rw [e]; exact hne)
  rw [e] at h1 h2
  simp at h1 h2
  rw [Bool.eq_iff_iff]
  exact ⟨h1, h2⟩
/-- An event is met. -/
theorem CqJ.put {N : Net} {tree : List Int} {arc x y : Int} {m : List Bool} {q : List Int} {k : Nat} (h : CqJ N tree arc m q x k) (hm : ∀ t ∈ tree, AcOk N (el N.acts t)) (hk : k < tree.length) (hne : el tree (k : Int) ≠ arc) (hxy : (x = (el N.acts (el tree (k : Int))).fr ∧ y = (el N.acts (el tree (k : Int))).tt) ∨ (x = (el N.acts (el tree (k : Int))).tt ∧ y = (el N.acts (el tree (k : Int))).fr)) (hy : el m y = false) : CqJ N tree arc (m.set y.toNat true) (q ++ [y]) x (k + 1) := by
  have hmt := el_mem (l := tree) (i := (k : Int)) (by omega) (by omega)
  have a := hm _ hmt
  have y01 : 0 ≤ y ∧ y < N.evs.length := by
    rcases hxy with ⟨_, h2⟩ | ⟨_, h2⟩
    · rw [h2]; exact ⟨a.t0, a.t1⟩
    · rw [h2]; exact ⟨a.f0, a.f1⟩
  have hl := h.sd.len
  have hyy : el (m.set y.toNat true) y = true := elSetS y01.1 (by omega)
  have up : ∀ e : Int, 0 ≤ e → el m e = true → el (m.set y.toNat true) e = true := fun e e0 he => by
    by_cases c : e = y
    · rw [c]; exact hyy
    · rw [elSetN y01.1 e0 c]; exact he
  have dn : ∀ e : Int, 0 ≤ e → el (m.set y.toNat true) e = true → e = y ∨ el m e = true := fun e e0 he => by
    by_cases c : e = y
    · exact .inl c
    · rw [elSetN y01.1 e0 c] at he; exact .inr he
  refine ⟨h.sd.put hmt hne hxy h.xin.1 h.xin.2.1 y01.1 y01.2 h.xin.2.2, fun z hz => ?_, ⟨h.xin.1, h.xin.2.1, up _ h.xin.1 h.xin.2.2⟩, fun j hj hn he => ?_, fun j hj hn he => ?_⟩
  · rcases List.mem_append.1 hz with c | c
    · have := h.qin z c; exact ⟨this.1, this.2.1, up _ this.1 this.2.2⟩
    · rw [List.mem_singleton.1 c]; exact ⟨y01.1, y01.2, hyy⟩
  · have aj := hm _ (el_mem (l := tree) (i := (j : Int)) (by omega) (by omega))
    rcases dn _ aj.f0 he with c | c
    · exact .inl (List.mem_append_right _ (List.mem_singleton.2 c))
    · rcases h.fwd j hj hn c with d | d | ⟨d1, d2⟩
      · exact .inl (List.mem_append_left _ d)
      · exact .inr (.inl (up _ aj.t0 d))
      · by_cases e : j = k
        · subst e
          rcases hxy with ⟨h1, h2⟩ | ⟨h1, h2⟩
          · exact .inr (.inl (by rw [← h2]; exact hyy))
          · exact absurd (d1.trans h1) aj.ne
        · exact .inr (.inr ⟨d1, by omega⟩)
  · have aj := hm _ (el_mem (l := tree) (i := (j : Int)) (by omega) (by omega))
    rcases dn _ aj.t0 he with c | c
    · exact .inl (List.mem_append_right _ (List.mem_singleton.2 c))
    · rcases h.bwd j hj hn c with d | d | ⟨d1, d2⟩
      · exact .inl (List.mem_append_left _ d)
      · exact .inr (.inl (up _ aj.f0 d))
      · by_cases e : j = k
        · subst e
          rcases hxy with ⟨h1, h2⟩ | ⟨h1, h2⟩
          · exact absurd (d1.trans h1).symm aj.ne
          · exact .inr (.inl (by rw [← h2]; exact hyy))
        · exact .inr (.inr ⟨d1, by omega⟩)
/-- Nothing is met. -/
theorem CqJ.skip {N : Net} {tree : List Int} {arc x : Int} {m : List Bool} {q : List Int} {k : Nat} (h : CqJ N tree arc m q x k) (hs : el tree (k : Int) = arc ∨ ((el N.acts (el tree (k : Int))).fr = x → el m (el N.acts (el tree (k : Int))).tt = true) ∧ ((el N.acts (el tree (k : Int))).tt = x → el m (el N.acts (el tree (k : Int))).fr = true)) : CqJ N tree arc m q x (k + 1) := by
  refine ⟨h.sd, h.qin, h.xin, fun j hj hn he => ?_, fun j hj hn he => ?_⟩
  · rcases h.fwd j hj hn he with d | d | ⟨d1, d2⟩
    · exact .inl d
    · exact .inr (.inl d)
    · by_cases e : j = k
      · subst e
        rcases hs with c | c
        · exact absurd c hn
        · exact .inr (.inl (c.1 d1))
      · exact .inr (.inr ⟨d1, by omega⟩)
  · rcases h.bwd j hj hn he with d | d | ⟨d1, d2⟩
    · exact .inl d
    · exact .inr (.inl d)
    · by_cases e : j = k
      · subst e
        rcases hs with c | c
        · exact absurd c hn
        · exact .inr (.inl (c.2 d1))
      · exact .inr (.inr ⟨d1, by omega⟩)
end Go.Wk
