/-
  Queues: slices of numbers that begin anywhere inside their block, popped at the front and appended to.
-/
import Derived.Test.YteicgnmggkhlbaaWkI
import Derived.Test.YteicgnmggkhlbaaBase
namespace Go.Wk
open Go.RowKit
set_option linter.unusedVariables false
set_option linter.unusedSimpArgs false

theorem Out.stepT {a b a' b' : Nat} {w w1 w2 : World} (h : Out a b w w1) (k : Out a' b' w1 w2) (ha : a ≤ a') (hb : w.heap.size ≤ b) : Out a b w w2 :=
  ⟨k.os.trans h.os, k.tape.trans h.tape, k.output.trans h.output, Nat.le_trans h.size k.size, fun i hi hk => (k.block i (Nat.lt_of_lt_of_le hi h.size) (by omega)).trans (h.block i hi hk)⟩
structure Qu (E : TypeId) (lo hi : Nat) (w : World) (ad : Option Addr) (c : Nat) (l : List Int) : Prop where
  ex : ∃ b o cur, ad = some ⟨b, o, none⟩ ∧ lo ≤ b ∧ b < hi ∧ w.heap[b]? = some (.cells cur E (0, 0)) ∧ l.length ≤ c ∧ c ≤ maxLen ∧ o + c ≤ cur.size ∧ ∀ i x, l[i]? = some x → cur[o + i]? = some (.int .i64 x)
section
variable {E : TypeId} {lo hi : Nat} {w w' : World} {ad : Option Addr} {c : Nat} {l : List Int}
theorem Qu.rng (h : Qu E lo hi w ad c l) : lo ≤ blk ad ∧ blk ad < w.heap.size ∧ hi1 ad = blk ad + 1 ∧ blk ad < hi := by
  obtain ⟨b, o, cur, rfl, h1, h2, h3, _⟩ := h.ex
  exact ⟨h1, (Array.getElem?_eq_some_iff.1 h3).1, rfl, h2⟩
theorem Qu.out {a b : Nat} (h : Qu E lo hi w ad c l) (ho : Out a b w w') (hs : blk ad < a ∨ b ≤ blk ad ∨ hi1 ad = 0) : Qu E lo hi w' ad c l := by
  obtain ⟨b, o, cur, rfl, h1, h2, h3, h4⟩ := h.ex
  have hl := (Array.getElem?_eq_some_iff.1 h3).1
  simp only [blk_some, hi1_some] at hs
  exact ⟨b, o, cur, rfl, h1, h2, (ho.block b hl (by omega)).trans h3, h4⟩
theorem Qu.ext (h : Qu E lo hi w ad c l) (ho : Ext w w') : Qu E lo hi w' ad c l := h.out ho (.inr (.inl (Nat.zero_le _)))
theorem Qu.wide {hi' : Nat} (h : Qu E lo hi w ad c l) (h2 : hi ≤ hi') : Qu E lo hi' w ad c l := by
  obtain ⟨b, o, cur, h0, h1, h2', h3, h4⟩ := h.ex
  exact ⟨b, o, cur, h0, h1, by omega, h3, h4⟩
theorem Qu.lower {lo' : Nat} (h : Qu E lo hi w ad c l) (h2 : lo' ≤ lo) : Qu E lo' hi w ad c l := by
  obtain ⟨b, o, cur, h0, h1, h2', h3, h4⟩ := h.ex
  exact ⟨b, o, cur, h0, by omega, h2', h3, h4⟩
theorem Qu.sl (h : Qu E lo hi w ad c l) : Sl encI 1 lo hi w ad l := by
  obtain ⟨b, o, cur, rfl, h1, h2, h3, h4, h5, h6, h7⟩ := h.ex
  refine ⟨fun _ => ⟨⟨b, o, rfl⟩, h1, h2⟩, fun i x hx j y hy => ?_⟩
  have hj : j = 0 := by
    rcases j with _ | j
    · rfl
    · simp [encI] at hy
  subst hj
  simp [encI] at hy
  subst hy
  show w.cell? ⟨b, o + i * 1 + 0, none⟩ = _
  rw [cell_of_row w b _ cur E (0, 0) h3, Nat.mul_one, Nat.add_zero]
  exact h7 i x hx
theorem Qu.tail {x : Int} (h : Qu E lo hi w ad c (x :: l)) : Qu E lo hi w (adv ad 1 c 1) (c - 1) l := by
  obtain ⟨b, o, cur, rfl, h1, h2, h3, h4, h5, h6, h7⟩ := h.ex
  rw [List.length_cons] at h4
  by_cases hc : c = 1
  · subst hc
    have hl : l = [] := List.eq_nil_of_length_eq_zero (by omega)
    subst hl
    exact ⟨b, o, cur, by simp [adv], h1, h2, h3, by simp, by omega, by omega, fun i x hx => by simp at hx⟩
  · refine ⟨b, o + 1, cur, by simp [adv, hc, Addr.add_lit], h1, h2, h3, by omega, by omega, by omega, fun i x hx => ?_⟩
    have := h7 (i + 1) x (by simpa using hx)
    rwa [show o + 1 + i = o + (i + 1) by omega]
theorem Ow.qu (h : Ow E encI 1 lo hi w ad c l) (hl : l ≠ []) : Qu E lo hi w ad c l := by
  have ht := h.top
  rcases h.owns.2 with ⟨h1, h2⟩ | ⟨g, cap, cur, h1, h2, h3, h4, h5, h6, h7⟩
  · exact absurd (List.eq_nil_of_length_eq_zero h2) hl
  · simp at h1
    obtain ⟨rfl, rfl⟩ := h1
    rw [hi1_some] at ht
    refine ⟨g, 0, cur, rfl, h2, ht, h3, h4, h5, by rw [h6]; omega, fun i x hx => ?_⟩
    have hi' : i < l.length := by
      rcases Nat.lt_or_ge i l.length with q | q
      · exact q
      · rw [List.getElem?_eq_none q] at hx; cases hx
    have hf := flat_get (enc := encI) (sz := 1) (fun _ => rfl) l i x hx 0 (by omega)
    rw [← h7, List.getElem?_take_of_lt (by omega)] at hf
    rw [Nat.zero_add]
    simpa [encI] using hf
end
section
variable {P : Program} {n : Nat} {f : Nat → Value} {d : Option Tmp} {ty : TypeId} {pos : String} {af : Array Edge} {gd : Option (Nat × Bool)} {w : World} {x y : Operand} {T E : TypeId} {K : Value → World → Prop}
  {lo hi : Nat} {ad : Option Addr} {c : Nat} {l : List Int}
/-- 'append' onto a queue. -/
theorem d_appQ {b2 c2 m : Nat} {xs : List Int} {z : Value} {bytes : Nat} {Ts : Array TypeId} (hO : Qu E lo hi w ad c l) (hT : SliceOf P T E 1) (hinfo : ∃ i, P.info? E = some i ∧ i.zero = some z ∧ i.size = 1 ∧ i.bytes = bytes ∧ z.cells.size = 1)
    (hTs : Ts = #[T, T]) (hx : ev n f x = .slice ad l.length c) (hy : ev n f y = .slice (some ⟨b2, 0, none⟩) m c2) (hm : m = xs.length) (hB : Blk w b2 (xs.flatMap encI))
    (h63 : l.length + xs.length ≤ maxLen) (hbytes : (l.length + xs.length) * bytes ≤ 140737488355328) (hlo : lo ≤ w.heap.size) (hhi : hi ≤ w.heap.size)
    (k : ∀ ad' c' w', Out (blk ad) (hi1 ad) w w' → Qu E lo w'.heap.size w' ad' c' (l ++ xs) → K (.slice ad' (l ++ xs).length c') w') :
    DoK P n f ⟨d, .call ⟨.builtin .append, #[x, y], Ts⟩, ty, pos, af, gd⟩ w K := by
  obtain ⟨i, hi', hiz, his, hib, hzs⟩ := hinfo
  subst hTs
  subst hm
  obtain ⟨g, o, cur, rfl, q1, q2, q3, q4, q5, q6, q7⟩ := hO.ex
  have hlt := (Array.getElem?_eq_some_iff.1 q3).1
  have hnl : (xs.flatMap encI).length = xs.length * i.size := by rw [his]; exact flat_len (enc := encI) (sz := 1) (fun _ => rfl) xs
  have hnl1 : (xs.flatMap encI).length = xs.length := by rw [hnl, his, Nat.mul_one]
  have hnews : ∀ j u, (xs.flatMap encI)[j]? = some u → w.cell? ((⟨b2, 0, none⟩ : Addr).add j) = some u := fun j u hu => by rw [Addr.add_lit, Nat.zero_add]; exact hB.cell hu
  have h1 : ∀ u ∈ xs.flatMap encI, u.oneCell' = true := fun u hu => by
    obtain ⟨x0, _, hux⟩ := List.mem_flatMap.1 hu
    simp [encI] at hux; subst hux; rfl
  have hxs : ∀ j u, xs[j]? = some u → (xs.flatMap encI)[j]? = some (Value.int .i64 u) := fun j u hu => by
    have := flat_get (enc := encI) (sz := 1) (fun _ => rfl) xs j u hu 0 (by omega)
    simpa [encI] using this
  have hls : ∀ j u, l[j]? = some u → (l.flatMap encI)[j]? = some (Value.int .i64 u) := fun j u hu => by
    have := flat_get (enc := encI) (sz := 1) (fun _ => rfl) l j u hu 0 (by omega)
    simpa [encI] using this
  have hll : (l.flatMap encI).length = l.length := by rw [flat_len (enc := encI) (sz := 1) (fun _ => rfl) l, Nat.mul_one]
  have hsplit : ∀ j u, (l ++ xs)[j]? = some u → (l[j]? = some u ∧ j < l.length) ∨ (xs[j - l.length]? = some u ∧ l.length ≤ j) := fun j u hu => by
    rcases Nat.lt_or_ge j l.length with q | q
    · rw [List.getElem?_append_left q] at hu; exact .inl ⟨hu, q⟩
    · rw [List.getElem?_append_right q] at hu; exact .inr ⟨hu, q⟩
  have hxlt : ∀ {a : Type} {L : List a} {j : Nat} {u : a}, L[j]? = some u → j < L.length := fun {a L j u} hu => by
    rcases Nat.lt_or_ge j L.length with q | q
    · exact q
    · rw [List.getElem?_eq_none q] at hu; cases hu
  by_cases hroom : l.length + xs.length ≤ c
  · have hf := run_firstCells_some (P := P) w i.size xs.length ⟨b2, 0, none⟩ xs.length c2 (xs.flatMap encI) hnl hnews
    have hst := run_storeCells_at P g (o + l.length) E (xs.flatMap encI) 0 cur w q3 (by omega) h1
    simp only [Nat.add_zero] at hst
    have hr : (Builtin.append_ #[T, T] ty #[.slice (some ⟨g, o, none⟩) l.length c, .slice (some ⟨b2, 0, none⟩) xs.length c2]).run P w = .ok (.slice (some ⟨g, o, none⟩) (l.length + xs.length) c) (w.setRow g (cur.toList.take (o + l.length) ++ xs.flatMap encI ++ cur.toList.drop (o + l.length + (xs.flatMap encI).length)).toArray) := by
      rw [his] at hf
      simp [Builtin.append_, run_underlying hT.und, sizeOf, typeInfo, hi', his, Builtin.lenOf, hroom, hf, Addr.add_lit, hst]
    refine ⟨_, w.setRow g (cur.toList.take (o + l.length) ++ xs.flatMap encI ++ cur.toList.drop (o + l.length + (xs.flatMap encI).length)).toArray, .inl ?_, k (some ⟨g, o, none⟩) c _ (Out.setRow w g _) ⟨g, o, (cur.toList.take (o + l.length) ++ xs.flatMap encI ++ cur.toList.drop (o + l.length + (xs.flatMap encI).length)).toArray, rfl, q1, by simp; omega, setRow_heap w g cur _ E _ q3, by rw [List.length_append]; exact hroom, q5, ?_, fun j u hu => ?_⟩⟩
    · simp only [execOp, resolve, invoke, builtin, Sem.run_bind, Sem.run_pure, Result.andThen_ok, List.map_toArray, List.map_cons, List.map_nil, hx, hy, hr, List.length_append]
    · simp only [List.size_toArray, List.length_append, List.length_take, List.length_drop, Array.length_toList (xs := cur)]; omega
    · simp only [List.getElem?_toArray]
      have htl : (cur.toList.take (o + l.length)).length = o + l.length := by rw [List.length_take, Array.length_toList (xs := cur)]; omega
      rcases hsplit j u hu with ⟨hl', hj⟩ | ⟨hx', hj⟩
      · rw [List.append_assoc, List.getElem?_append_left (by omega), List.getElem?_take_of_lt (by omega), Array.getElem?_toList]
        exact q7 j u hl'
      · have := hxlt hx'
        rw [List.append_assoc, List.getElem?_append_right (by omega), List.getElem?_append_left (by rw [htl, hnl1]; omega), htl, show o + j - (o + l.length) = j - l.length by omega]
        exact hxs _ _ hx'
  · have hold : ∀ j u, (l.flatMap encI)[j]? = some u → w.cell? ((⟨g, o, none⟩ : Addr).add j) = some u := fun j u hu => by
      have hj := hxlt hu
      rw [hll] at hj
      have h2 := hls j _ (List.getElem?_eq_getElem hj)
      rw [hu] at h2
      cases h2
      rw [Addr.add_lit, cell_of_row w g _ cur E (0, 0) q3]
      exact q7 j _ (List.getElem?_eq_getElem hj)
    have hr := run_append_grow (P := P) w T ty E i z hT.und hi' hiz ⟨g, o, none⟩ l.length c (l.flatMap encI) (by rw [hll, his, Nat.mul_one]) hold ⟨b2, 0, none⟩ xs.length c2 (xs.flatMap encI) hnl hnews (by omega) (by simp only [maxLen] at h63; omega) (growslice_fits (by omega) (by rw [hib]; exact hbytes))
    have hge := grownCap_ge w (l.length + xs.length) c E
    have hcm := grownCap_le_maxLen w (l.length + xs.length) c E h63
    refine ⟨_, w.drew.alloc (.cells ((l.flatMap encI).toArray ++ (xs.flatMap encI).toArray ++ Builtin.zeroCells z.cells (grownCap w (l.length + xs.length) c E - (l.length + xs.length))) E), .inl ?_, k (some ⟨w.heap.size, 0, none⟩) (grownCap w (l.length + xs.length) c E) _ ?_ ⟨w.heap.size, 0, ((l.flatMap encI).toArray ++ (xs.flatMap encI).toArray ++ Builtin.zeroCells z.cells (grownCap w (l.length + xs.length) c E - (l.length + xs.length))), rfl, hlo, by simp, heap_alloc_new w.drew _, by rw [List.length_append]; exact hge, hcm, ?_, fun j u hu => ?_⟩⟩
    · simp only [execOp, resolve, invoke, builtin, Sem.run_bind, Sem.run_pure, Result.andThen_ok, List.map_toArray, List.map_cons, List.map_nil, hx, hy, hr, List.length_append]
    · exact ((Out.drew w).trans (Out.alloc w.drew _)).wide (.inl (Nat.le_refl _))
    · simp only [Array.size_append, List.size_toArray, size_zeroCells, hzs, hll, hnl1]; omega
    · rw [Nat.zero_add]
      rcases hsplit j u hu with ⟨hl', hj⟩ | ⟨hx', hj⟩
      · rw [Array.append_assoc, Array.getElem?_append_left (by simp [hll]; omega)]
        simpa using hls j u hl'
      · have := hxlt hx'
        rw [Array.append_assoc, Array.getElem?_append_right (by simp [hll]; omega), Array.getElem?_append_left (by simp [hll, hnl1]; omega)]
        simp only [List.size_toArray, hll]
        simpa using hxs _ _ hx'
end
end Go.Wk
