/-
  An append that tells where the result lies.
-/
import Derived.Test.YtclligkngjhihaaWkG
import Derived.Maps.AppendAt
namespace Go.Wk
open Go.RowKit
set_option linter.unusedVariables false
set_option linter.unusedSimpArgs false
section
variable {P : Program} {n : Nat} {f : Nat → Value} {d : Option Tmp} {ty : TypeId} {pos : String} {af : Array Edge} {gd : Option (Nat × Bool)} {w : World} {x y : Operand} {T E : TypeId} {K : Value → World → Prop}
  {α : Type} {enc : α → List Value} {sz lo hi : Nat} {ad : Option Addr} {c : Nat} {l : List α}

theorem d_appA {b2 c2 m : Nat} {xs : List α} {z : Value} {bytes : Nat} {Ts : Array TypeId} (hO : Ow E enc sz lo hi w ad c l) (hT : SliceOf P T E sz) (hinfo : ∃ i, P.info? E = some i ∧ i.zero = some z ∧ i.size = sz ∧ i.bytes = bytes ∧ z.cells.size = sz) (hsz : 0 < sz)
    (hTs : Ts = #[T, T]) (hx : ev n f x = .slice ad l.length c) (hy : ev n f y = .slice (some ⟨b2, 0, none⟩) m c2) (hm : m = xs.length) (hB : Blk w b2 (xs.flatMap enc)) (h1 : ∀ x, ones (enc x) = true)
    (h63 : l.length + xs.length ≤ maxLen) (hbytes : (l.length + xs.length) * bytes ≤ 140737488355328) (hlo : lo ≤ w.heap.size) (hhi : hi ≤ w.heap.size)
    (k : ∀ ad' c' w', ((blk ad' = blk ad ∧ hi1 ad' = hi1 ad) ∨ (blk ad' = w.heap.size ∧ hi1 ad' = w.heap.size + 1)) → Out (blk ad) (hi1 ad) w w' → Ow E enc sz lo w'.heap.size w' ad' c' (l ++ xs) → K (.slice ad' (l ++ xs).length c') w') :
    DoK P n f ⟨d, .call ⟨.builtin .append, #[x, y], Ts⟩, ty, pos, af, gd⟩ w K := by
  obtain ⟨i, hi', hiz, his, hib, hzs⟩ := hinfo
  subst hTs
  subst hm
  have hnl : (xs.flatMap enc).length = xs.length * sz := flat_len hO.len xs
  obtain ⟨v', w', hr, hown, hgr, hnil, hat⟩ := run_append_own_at (P := P) w lo T ty E i z sz bytes hT.und hi' hiz his hib hzs hsz (.slice ad l.length c) l.length (l.flatMap enc) hO.owns ⟨b2, 0, none⟩ xs.length c2 (xs.flatMap enc) hnl
    (fun j u hu => by rw [Addr.add_lit, Nat.zero_add]; exact hB.cell hu) (fun u hu => by
      obtain ⟨x0, _, hux⟩ := List.mem_flatMap.1 hu
      exact ones_all (h1 x0) u hux) h63 hbytes hlo
  have hO' : Out (blk ad) (hi1 ad) w w' := Out.grown hgr (fun k hk => by
    cases ad with
    | none => simp [Value.ownBlock] at hk
    | some a => simp [Value.ownBlock] at hk; subst hk; exact ⟨Nat.le_refl _, by simp [hi1]⟩)
  have hform : ∃ ad' c', v' = .slice ad' (l ++ xs).length c' := by
    rcases hown.2 with ⟨h, h0⟩ | ⟨g, cap, cur, h, _⟩
    · exact ⟨none, 0, by rw [h]; simp; omega⟩
    · exact ⟨some ⟨g, 0, none⟩, cap, by rw [h]; simp⟩
  obtain ⟨ad', c', rfl⟩ := hform
  have hO2 : Ow E enc sz lo w'.heap.size w' ad' c' (l ++ xs) := by
    refine ⟨by rw [List.flatMap_append]; rw [List.length_append] at hown ⊢; exact hown, hO.len, ?_⟩
    rcases hown.2 with ⟨h, h0⟩ | ⟨g, cap, cur, h, _, hg, _⟩
    · simp at h; rw [h.1]; exact Nat.zero_le _
    · simp at h
      rw [h.1]
      have := (Array.getElem?_eq_some_iff.1 hg).1
      simp [hi1]; omega
  have hat' : (blk ad' = blk ad ∧ hi1 ad' = hi1 ad) ∨ (blk ad' = w.heap.size ∧ hi1 ad' = w.heap.size + 1) := by
    rcases hat with h | h
    · left
      cases ad <;> cases ad' <;> simp [Value.ownBlock] at h <;> simp [blk, hi1, h]
    · right
      cases ad' <;> simp [Value.ownBlock] at h <;> simp [blk, hi1, h]
  refine ⟨_, w', .inl ?_, k ad' c' w' hat' hO' hO2⟩
  simp only [execOp, resolve, invoke, builtin, Sem.run_bind, Sem.run_pure, Result.andThen_ok, List.map_toArray, List.map_cons, List.map_nil, hx, hy, hr]
end
theorem pre3 {a b c : Value} {r : List Value} : ∀ j u, [a, b, c][j]? = some u → (a :: b :: c :: r)[0 + j]? = some u := by
  intro j u h
  rcases j with _ | _ | _ | j
  · simpa using h
  · simpa using h
  · simpa using h
  · simp at h
theorem y_lbS {P : Program} {n : Nat} {f : Nat → Value} {d : Option Tmp} {ty : TypeId} {pos : String} {af : Array Edge} {gd : Option (Nat × Bool)} {w : World} {x : Operand} {T : TypeId} {b o : Nat} {cs ds : List Value} (hB : Blk w b cs) (h : AggOf P T ds.length) (hx : ev n f x = .pointer (some ⟨b, o, none⟩)) (hs : ∀ j u, ds[j]? = some u → cs[o + j]? = some u) : Yl P n f ⟨d, .load T x, ty, pos, af, gd⟩ w (.agg ds.toArray) :=
  y_ldN h hx (fun j u hu => hB.cell (hs j u hu))
theorem ret4 {P : Program} {w : World} {fn : Func} {R : Value → World → Prop} {n : Nat} {f : Nat → Value} {t t' t'' t3 : Nat} {v v' v'' v3 : Value} (hr : fn.results = #[.tmp t, .tmp t', .tmp t'', .tmp t3]) (hv : ev n f (.tmp t) = v) (hv' : ev n f (.tmp t') = v') (hv'' : ev n f (.tmp t'') = v'') (hv3 : ev n f (.tmp t3) = v3) (h : R (.tuple #[v, v', v'', v3]) w) : PostV P fn R .ret (act n f) w :=
  bodyPost_ret (v := .tuple #[v, v', v'', v3]) (by simp only [results, hr]; simp [← Array.getD_eq_getD_getElem?, act_getD]; exact ⟨hv, hv', hv'', hv3⟩) rfl ⟨_, rfl, h⟩
end Go.Wk
