/-
  Ways along a forest: of the ways without repeated arcs between two events there is only one; lists of fundamental cycles; potentials.
-/
import Derived.Test.YtdgkaahghlbocaaTr
import Derived.Test.YtdgkaahghlbocaaCz
namespace Go.Wk
set_option linter.unusedVariables false
set_option linter.unusedSimpArgs false

/-- A way: arcs (number, sign) out of 'S', each starts where the one before ends. -/
def Wa (N : Net) (S : List Int) : Int → List (Int × Int) → Int → Prop
  | x, [], y => x = y
  | x, p :: r, y => p.1 ∈ S ∧ (p.2 = 1 ∨ p.2 = -1) ∧ cySt N p.1 p.2 = x ∧ Wa N S (cyEn N p.1 p.2) r y
theorem arc_ends {N : Net} {a s : Int} (h : s = 1 ∨ s = -1) : (cySt N a s = (el N.acts a).fr ∧ cyEn N a s = (el N.acts a).tt) ∨ (cySt N a s = (el N.acts a).tt ∧ cyEn N a s = (el N.acts a).fr) := by
  unfold cySt cyEn
  rcases h with e | e <;> subst e
  · exact .inl ⟨if_neg (by decide), if_neg (by decide)⟩
  · exact .inr ⟨if_pos (by decide), if_pos (by decide)⟩
theorem arc_con {N : Net} {S : List Int} {a s : Int} (ha : a ∈ S) (h : s = 1 ∨ s = -1) : conB (S.map (el N.acts)) (cySt N a s) (cyEn N a s) = true := by
  have hm : conB (S.map (el N.acts)) (el N.acts a).fr (el N.acts a).tt = true := con_mem (List.mem_map.2 ⟨a, ha, rfl⟩)
  rcases arc_ends (N := N) (a := a) h with ⟨h1, h2⟩ | ⟨h1, h2⟩ <;> rw [h1, h2]
  · exact hm
  · exact (con_eqk _).symm _ _ hm
theorem Wa.con {N : Net} {S : List Int} : ∀ {l : List (Int × Int)} {x y : Int}, Wa N S x l y → conB (S.map (el N.acts)) x y = true
  | [], x, y, h => by cases h; exact (con_eqk _).refl _
  | p :: r, x, y, h => by
    obtain ⟨h1, h2, h3, h4⟩ := h
    have := Wa.con h4
    rw [← h3]
    exact (con_eqk _).trans _ _ _ (arc_con h1 h2) this
theorem Wa.split {N : Net} {S : List Int} : ∀ {l1 : List (Int × Int)} {p : Int × Int} {l2 : List (Int × Int)} {x y : Int}, Wa N S x (l1 ++ p :: l2) y → Wa N S x l1 (cySt N p.1 p.2) ∧ (p.2 = 1 ∨ p.2 = -1) ∧ Wa N S (cyEn N p.1 p.2) l2 y
  | [], p, l2, x, y, h => ⟨h.2.2.1.symm, h.2.1, h.2.2.2⟩
  | q :: l1, p, l2, x, y, h => by
    obtain ⟨h1, h2, h3, h4⟩ := h
    obtain ⟨k1, k2, k3⟩ := Wa.split h4
    exact ⟨⟨h1, h2, h3, k1⟩, k2, k3⟩
theorem Wa.sub {N : Net} {S S' : List Int} : ∀ {l : List (Int × Int)} {x y : Int}, Wa N S x l y → (∀ p ∈ l, p.1 ∈ S') → Wa N S' x l y
  | [], x, y, h, _ => h
  | p :: r, x, y, h, hs => ⟨hs p List.mem_cons_self, h.2.1, h.2.2.1, Wa.sub h.2.2.2 fun q hq => hs q (List.mem_cons_of_mem _ hq)⟩
theorem Wa.mem {N : Net} {S : List Int} : ∀ {l : List (Int × Int)} {x y : Int}, Wa N S x l y → ∀ p ∈ l, p.1 ∈ S ∧ (p.2 = 1 ∨ p.2 = -1)
  | [], x, y, h, p, hp => by cases hp
  | q :: r, x, y, h, p, hp => by
    rcases List.mem_cons.1 hp with e | e
    · rw [e]; exact ⟨h.1, h.2.1⟩
    · exact Wa.mem h.2.2.2 p e
theorem Wa.snoc {N : Net} {S : List Int} : ∀ {l : List (Int × Int)} {x y : Int} {p : Int × Int}, Wa N S x l y → p.1 ∈ S → (p.2 = 1 ∨ p.2 = -1) → cySt N p.1 p.2 = y → Wa N S x (l ++ [p]) (cyEn N p.1 p.2)
  | [], x, y, p, h, h1, h2, h3 => by cases h; exact ⟨h1, h2, h3, rfl⟩
  | q :: r, x, y, p, h, h1, h2, h3 => ⟨h.1, h.2.1, h.2.2.1, Wa.snoc h.2.2.2 h1 h2 h3⟩
/-- One way only. -/
theorem Wa.uniq {N : Net} {tree : List Int} : ∀ k : Nat, k ≤ tree.length → FoA N tree k → ∀ (x y : Int) (p q : List (Int × Int)), Wa N (tree.take k) x p y → Wa N (tree.take k) x q y → (p.map Prod.fst).Nodup → (q.map Prod.fst).Nodup → p = q
  | 0, _, _, x, y, p, q, hp, hq, _, _ => by
    have h0 : ∀ {l : List (Int × Int)}, Wa N (tree.take 0) x l y → l = [] := fun {l} h => by
      cases l with
      | nil => rfl
      | cons a r => have := h.1; simp at this
    rw [h0 hp, h0 hq]
  | k + 1, hk, hf, x, y, p, q, hp, hq, np, nq => by
    have hf' : FoA N tree k := ⟨fun i hi => hf.rng i (by omega), fun i hi => hf.asc i (by omega), fun i hi => hf.new i (by omega)⟩
    have ih := Wa.uniq k (by omega) hf'
    have hnew := hf.new k (by omega)
    have htk := tkS (l := tree) (k := k) (by omega)
    rw [htk] at hp hq
    have E := con_eqk ((tree.take k).map (el N.acts))
    -- a way: without the last arc, or with it once
    have part : ∀ {l : List (Int × Int)}, Wa N (tree.take k ++ [el tree (k : Int)]) x l y → (l.map Prod.fst).Nodup → Wa N (tree.take k) x l y ∨ ∃ l1 s l2, l = l1 ++ (el tree (k : Int), s) :: l2 ∧ (s = 1 ∨ s = -1) ∧ Wa N (tree.take k) x l1 (cySt N (el tree (k : Int)) s) ∧ Wa N (tree.take k) (cyEn N (el tree (k : Int)) s) l2 y ∧ (l1.map Prod.fst).Nodup ∧ (l2.map Prod.fst).Nodup := by
      intro l hl nl
      by_cases hm : el tree (k : Int) ∈ l.map Prod.fst
      · obtain ⟨⟨a, s⟩, hb, he⟩ := List.mem_map.1 hm
        dsimp only at he
        subst he
        obtain ⟨l1, l2, rfl⟩ := List.append_of_mem hb
        obtain ⟨k1, k2, k3⟩ := hl.split
        rw [List.map_append, List.map_cons, List.nodup_append] at nl
        obtain ⟨n1, n2, n3⟩ := nl
        rw [List.nodup_cons] at n2
        refine .inr ⟨l1, s, l2, rfl, k2, k1.sub fun z hz => ?_, k3.sub fun z hz => ?_, n1, n2.2⟩
        · have := (k1.mem z hz).1
          rcases List.mem_append.1 this with h | h
          · exact h
          · exact absurd (List.mem_singleton.1 h) (n3 _ (List.mem_map.2 ⟨z, hz, rfl⟩) _ List.mem_cons_self)
        · have := (k3.mem z hz).1
          rcases List.mem_append.1 this with h | h
          · exact h
          · exact absurd (List.mem_map.2 ⟨z, hz, List.mem_singleton.1 h⟩) n2.1
      · refine .inl (hl.sub fun z hz => ?_)
        rcases List.mem_append.1 (hl.mem z hz).1 with h | h
        · exact h
        · exact absurd (List.mem_map.2 ⟨z, hz, List.mem_singleton.1 h⟩) hm
    have cross : ∀ {s : Int} {u v : Int}, (s = 1 ∨ s = -1) → conB ((tree.take k).map (el N.acts)) u (cySt N (el tree (k : Int)) s) = true → conB ((tree.take k).map (el N.acts)) (cyEn N (el tree (k : Int)) s) v = true → conB ((tree.take k).map (el N.acts)) u v = true → False := by
      intro s u v hs h1 h2 h3
      have h4 := E.trans _ _ _ (E.trans _ _ _ (E.symm _ _ h1) h3) (E.symm _ _ h2)
      rcases arc_ends (N := N) (a := el tree (k : Int)) hs with ⟨e1, e2⟩ | ⟨e1, e2⟩ <;> rw [e1, e2] at h4
      · rw [hnew] at h4; cases h4
      · rw [E.symm _ _ h4] at hnew; cases hnew
    rcases part hp np with hp' | ⟨p1, s, p2, rfl, hs, a1, a2, na, na2⟩
    · rcases part hq nq with hq' | ⟨q1, t, q2, rfl, ht, b1, b2, nb, nb2⟩
      · exact ih x y p q hp' hq' np nq
      · exact (cross ht b1.con b2.con hp'.con).elim
    · rcases part hq nq with hq' | ⟨q1, t, q2, rfl, ht, b1, b2, nb, nb2⟩
      · exact (cross hs a1.con a2.con hq'.con).elim
      · by_cases e : s = t
        · subst e
          rw [ih _ _ p1 q1 a1 b1 na nb, ih _ _ p2 q2 a2 b2 na2 nb2]
        · have e2 : cySt N (el tree (k : Int)) t = cyEn N (el tree (k : Int)) s := by
            unfold cySt cyEn
            rcases hs with h | h <;> rcases ht with h' | h' <;> subst h <;> subst h' <;> first | exact absurd rfl e | rfl
          have h1 := b1.con
          rw [e2] at h1
          exact (cross hs a1.con ((con_eqk _).refl _) h1).elim
theorem Wa.one {N : Net} {tree : List Int} (h : FoA N tree tree.length) {x y : Int} {p q : List (Int × Int)} (hp : Wa N tree x p y) (hq : Wa N tree x q y) (np : (p.map Prod.fst).Nodup) (nq : (q.map Prod.fst).Nodup) : p = q := by
  have e : tree.take tree.length = tree := List.take_length
  exact Wa.uniq tree.length (Nat.le_refl _) h x y p q (by rw [e]; exact hp) (by rw [e]; exact hq) np nq

/-- A way with ranks is one without repeated arcs. -/
theorem Pa.wa {N : Net} {tree : List Int} {rk : Int → Nat} {x y : Int} {arcs signs xs : List Int} (h : Pa N tree rk x y arcs signs xs) : Wa N tree x (arcs.zip signs) y := by
  have key : ∀ m k : Nat, k + m = arcs.length → Wa N tree (el xs (k : Int)) ((arcs.zip signs).drop k) y := by
    intro m
    induction m with
    | zero =>
      intro k hk
      have hz : (arcs.zip signs).drop k = [] := List.drop_eq_nil_of_le (by rw [List.length_zip, h.slen]; omega)
      rw [hz]
      have := h.xl
      rw [show arcs.length = k by omega] at this
      exact this
    | succ m ih =>
      intro k hk
      have h1 := h.slen
      have hlz : k < (arcs.zip signs).length := by rw [List.length_zip, h1]; omega
      rw [List.drop_eq_getElem_cons hlz, List.getElem_zip]
      obtain ⟨s1, s2, s3, s4⟩ := h.stp k (by omega)
      have ea : arcs[k]'(by omega) = el arcs (k : Int) := by simp [el, show k < arcs.length by omega]
      have es : signs[k]'(by omega) = el signs (k : Int) := by simp [el, show k < signs.length by omega]
      rw [ea, es]
      refine ⟨s1, s2, s3, ?_⟩
      have e4 : cyEn N (el arcs (k : Int)) (el signs (k : Int)) = el xs ((k + 1 : Nat) : Int) := s4
      show Wa N tree (cyEn N (el arcs (k : Int)) (el signs (k : Int))) _ y
      rw [e4]
      exact ih (k + 1) (by omega)
  have := key arcs.length 0 (by omega)
  rwa [show ((0 : Nat) : Int) = 0 from rfl, h.x0, List.drop_zero] at this
theorem Pa.nodup {N : Net} {tree : List Int} {rk : Int → Nat} {x y : Int} {arcs signs xs : List Int} (h : Pa N tree rk x y arcs signs xs) : arcs.Nodup := by
  have hl := h.len
  have hinj : ∀ p q : Nat, p < xs.length → q < xs.length → el xs (p : Int) = el xs (q : Int) → p = q := fun p q hp hq he => by
    rcases Nat.lt_trichotomy p q with c | c | c
    · have := h.rkm p q c hq; rw [he] at this; omega
    · exact c
    · have := h.rkm q p c hp; rw [he] at this; omega
  rw [List.nodup_iff_pairwise_ne, List.pairwise_iff_getElem]
  intro p q hp hq hpq he
  obtain ⟨h1, h2, h3, h4⟩ := h.stp q hq
  obtain ⟨k1, k2, k3, k4⟩ := h.stp p hp
  have ee : el arcs (p : Int) = el arcs (q : Int) := by simpa [el, hp, hq] using he
  have key : el xs ((q : Int) + 1) = el xs (p : Int) ∨ el xs ((q : Int) + 1) = el xs ((p : Int) + 1) := by
    rw [← h4, ← k3, ← k4]
    unfold stK enK cySt cyEn
    rw [ee]
    rcases h2 with e1 | e1 <;> rcases k2 with e2 | e2 <;> rw [e1, e2] <;> simp
  rcases key with key | key
  · have := hinj (q + 1) p (by omega) (by omega) (by simpa using key); omega
  · have := hinj (q + 1) (p + 1) (by omega) (by omega) (by simpa using key); omega
theorem zip_fst {a b : List Int} (h : b.length = a.length) : (a.zip b).map Prod.fst = a := List.map_fst_zip (by omega)
theorem zip_snd {a b : List Int} (h : b.length = a.length) : (a.zip b).map Prod.snd = b := List.map_snd_zip (by omega)

/-! ### The list of the fundamental cycles -/
/-- The activities outside of the forest, up to 'k'. -/
def nonT (tree : List Int) (k : Nat) : List Int := ((List.range k).filter fun (i : Nat) => !decide ((i : Int) ∈ tree)).map fun (i : Nat) => (i : Int)
theorem nonT_step (tree : List Int) (k : Nat) : nonT tree (k + 1) = nonT tree k ++ (if (k : Int) ∈ tree then [] else [(k : Int)]) := by
  unfold nonT
  rw [List.range_succ, List.filter_append, List.map_append]
  by_cases h : (k : Int) ∈ tree
  · simp [h]
  · simp [h]
theorem nonT_len (tree : List Int) (k : Nat) : (nonT tree k).length ≤ k := by
  unfold nonT; rw [List.length_map]; exact Nat.le_trans (List.length_filter_le _ _) (by simp)
theorem nonT_mem {tree : List Int} {k : Nat} {x : Int} (h : x ∈ nonT tree k) : 0 ≤ x ∧ x < k ∧ ¬ x ∈ tree := by
  unfold nonT at h
  obtain ⟨i, hi, rfl⟩ := List.mem_map.1 h
  obtain ⟨h1, h2⟩ := List.mem_filter.1 hi
  rw [List.mem_range] at h1
  exact ⟨by omega, by omega, by simpa using h2⟩
theorem nonT_of {tree : List Int} {k : Nat} {x : Int} (h0 : 0 ≤ x) (h1 : x < k) (h2 : ¬ x ∈ tree) : x ∈ nonT tree k := by
  unfold nonT
  refine List.mem_map.2 ⟨x.toNat, List.mem_filter.2 ⟨List.mem_range.2 (by omega), ?_⟩, by omega⟩
  rw [Int.toNat_of_nonneg h0]; simpa using h2
/-- The cycle of an activity outside of the forest. -/
def CyW (N : Net) (tree : List Int) (i : Int) (c : List Int × List Int) : Prop := ∃ w, Wa N tree (el N.acts i).tt w (el N.acts i).fr ∧ (w.map Prod.fst).Nodup ∧ c = (i :: w.map Prod.fst, 1 :: w.map Prod.snd)
theorem CyW.uniq {N : Net} {tree : List Int} (h : FoA N tree tree.length) {i : Int} {c c' : List Int × List Int} (h1 : CyW N tree i c) (h2 : CyW N tree i c') : c = c' := by
  obtain ⟨w, a1, a2, a3⟩ := h1
  obtain ⟨w', b1, b2, b3⟩ := h2
  rw [a3, b3, Wa.one h a1 b1 a2 b2]
def FunR (N : Net) (tree : List Int) (k : Nat) (l : List (List Int × List Int)) : Prop := l.length = (nonT tree k).length ∧ ∀ j : Nat, j < l.length → CyW N tree (el (nonT tree k) (j : Int)) (el l (j : Int))
theorem FunR.zero {N : Net} {tree : List Int} : FunR N tree 0 [] := ⟨rfl, fun j hj => by simp at hj⟩
theorem FunR.pass {N : Net} {tree : List Int} {k : Nat} {l : List (List Int × List Int)} (h : FunR N tree k l) (hk : (k : Int) ∈ tree) : FunR N tree (k + 1) l := by
  unfold FunR at h ⊢
  rw [nonT_step, if_pos hk, List.append_nil]; exact h
theorem el_app1 {α : Type} [Inhabited α] {l : List α} {x : α} {j : Nat} (h : j < l.length) : el (l ++ [x]) (j : Int) = el l (j : Int) := by simp [el, h, List.getElem?_append_left]
theorem el_app2 {α : Type} [Inhabited α] {l : List α} {x : α} : el (l ++ [x]) (l.length : Int) = x := by simp [el]
theorem FunR.add {N : Net} {tree : List Int} {k : Nat} {l : List (List Int × List Int)} {c : List Int × List Int} (h : FunR N tree k l) (hk : ¬ (k : Int) ∈ tree) (hc : CyW N tree (k : Int) c) : FunR N tree (k + 1) (l ++ [c]) := by
  obtain ⟨h1, h2⟩ := h
  unfold FunR
  rw [nonT_step, if_neg hk]
  refine ⟨by simp [h1], fun j hj => ?_⟩
  by_cases e : j = l.length
  · subst e
    rw [el_app2, h1, el_app2]; exact hc
  · rw [List.length_append, List.length_singleton] at hj
    rw [el_app1 (by omega), el_app1 (by omega)]
    exact h2 j (by omega)
theorem FunR.uniq {N : Net} {tree : List Int} (h : FoA N tree tree.length) {k : Nat} {l l' : List (List Int × List Int)} (h1 : FunR N tree k l) (h2 : FunR N tree k l') : l = l' := by
  refine extEl (by rw [h1.1, h2.1]) fun i i0 i1 => ?_
  obtain ⟨j, rfl⟩ := Int.eq_ofNat_of_zero_le i0
  exact (h1.2 j (by omega)).uniq h (h2.2 j (by rw [h2.1, ← h1.1]; omega))

/-! ### Potentials -/
structure PotOk (N : Net) (tree vals p : List Int) : Prop where
  len : p.length = N.evs.length
  rng : ∀ x : Int, 0 ≤ x → x < N.evs.length → 0 ≤ el p x ∧ el p x < N.p
  dif : ∀ a ∈ tree, (el p (el N.acts a).tt - el p (el N.acts a).fr - el vals a) % N.p = 0
  fst : ∀ x : Nat, x < N.evs.length → fstB (conB (tree.map (el N.acts))) x = true → el p (x : Int) = 0
theorem fst_ex (K : Int → Int → Bool) (hK : EqK K) : ∀ x : Nat, ∃ f : Nat, f ≤ x ∧ fstB K f = true ∧ K (f : Int) (x : Int) = true := by
  intro x
  induction x using Nat.strongRecOn with
  | ind x ih =>
    cases e : fstB K x with
    | true => exact ⟨x, Nat.le_refl _, e, hK.refl _⟩
    | false =>
      obtain ⟨k, hk, hk2⟩ := first_no e
      obtain ⟨f, f1, f2, f3⟩ := ih k hk
      exact ⟨f, by omega, f2, hK.trans _ _ _ f3 hk2⟩
theorem emod_small {a m : Int} (h : a % m = 0) (h1 : -m < a) (h2 : a < m) : a = 0 := by
  obtain ⟨c, rfl⟩ := Int.dvd_of_emod_eq_zero h
  have hm : 0 < m := by
    rcases Int.lt_trichotomy m 0 with c | c | c <;> omega
  rcases Int.lt_trichotomy c 0 with e | e | e
  · have : m * c ≤ m * (-1) := Int.mul_le_mul_of_nonneg_left (by omega) (by omega); omega
  · subst e; simp
  · have : m * 1 ≤ m * c := Int.mul_le_mul_of_nonneg_left (by omega) (by omega); omega
theorem PotOk.uniq {N : Net} {tree vals p q : List Int} (hN : NetOk N) (hp : PotOk N tree vals p) (hq : PotOk N tree vals q) : p = q := by
  refine extEl (by rw [hp.len, hq.len]) fun i i0 i1 => ?_
  rw [hp.len] at i1
  obtain ⟨x, rfl⟩ := Int.eq_ofNat_of_zero_le i0
  have E := con_eqk (tree.map (el N.acts))
  obtain ⟨f, f1, f2, f3⟩ := fst_ex _ E x
  have p2 := hN.p2
  have key := con_clo (S := fun z => decide ((el p z - el q z) % N.p = 0)) (tree.map (el N.acts)) (fun a ha => by
    obtain ⟨t, ht, rfl⟩ := List.mem_map.1 ha
    have h1 := hp.dif t ht
    have h2 := hq.dif t ht
    have h4 : (el p (el N.acts t).tt - el q (el N.acts t).tt) % N.p = (el p (el N.acts t).fr - el q (el N.acts t).fr) % N.p := by
      refine Int.emod_eq_emod_iff_emod_sub_eq_zero.2 (Int.emod_eq_zero_of_dvd ?_)
      have := Int.dvd_sub (Int.dvd_of_emod_eq_zero h1) (Int.dvd_of_emod_eq_zero h2)
      rwa [show el p (el N.acts t).tt - el p (el N.acts t).fr - el vals t - (el q (el N.acts t).tt - el q (el N.acts t).fr - el vals t) = el p (el N.acts t).tt - el q (el N.acts t).tt - (el p (el N.acts t).fr - el q (el N.acts t).fr) by omega] at this
    show decide (_ % N.p = 0) = decide (_ % N.p = 0)
    rw [h4]) _ _ f3
  rw [hp.fst f (by omega) f2, hq.fst f (by omega) f2] at key
  have hx : (el p (x : Int) - el q (x : Int)) % N.p = 0 := by
    have : decide (((0 : Int) - 0) % N.p = 0) = true := by simp
    rw [this] at key
    exact of_decide_eq_true key.symm
  have r1 := hp.rng x (by omega) i1
  have r2 := hq.rng x (by omega) i1
  have := emod_small hx (by omega) (by omega)
  omega
end Go.Wk
