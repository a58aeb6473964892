/-
  More operations: structs and slices compared, shifts, appends of a whole slice, slices cut, empty literal slices.
-/
import Derived.Test.YtclligkngjhihaaWkE
import Derived.Laws.StructEq
namespace Go.Wk
open Go.RowKit
set_option linter.unusedVariables false
set_option linter.unusedSimpArgs false
section
variable {P : Program} {n : Nat} {f : Nat → Value} {d : Option Tmp} {ty : TypeId} {pos : String} {af : Array Edge} {gd : Option (Nat × Bool)} {w : World} {x y : Operand} {T T' : TypeId} {a b : Int} {k k' : IntKind} {K : Value → World → Prop}

theorem y_shr (hx : ev n f x = .int k a) (hy : ev n f y = .int k' b) (hb : 0 ≤ b) : Yl P n f ⟨d, .binOp .shr T x y T', ty, pos, af, gd⟩ w (.int k (a.fdiv (2 ^ (min b.toNat k.bits)))) := by
  have h : ¬ b < 0 := by omega
  simp [Yl, execOp, hx, hy, eqGuard, binOp, Op.shift, h]
theorem y_and (hx : ev n f x = .int k a) (hy : ev n f y = .int k b) : Yl P n f ⟨d, .binOp .and T x y T', ty, pos, af, gd⟩ w (.int k (k.wrap (BitVec.ofInt k.bits a &&& BitVec.ofInt k.bits b).toNat)) := by
  simp [Yl, execOp, hx, hy, eqGuard, binOp, Op.intBits]

theorem nilEq {E : TypeId} {ad : Option Addr} {m c : Nat} (h : P.underlying T = some (.slice E)) : (Op.equal T (.slice ad m c) (.slice none 0 0)).run P w = .ok ad.isNone w := by
  have hu := run_underlying (P := P) (w := w) h
  unfold Op.equal Op.maxDepth
  rw [show (10000 : Nat) = 9999 + 1 from rfl]
  unfold Op.equalIn
  simp only [Sem.run_bind, hu, Result.andThen_ok]
  cases ad <;> simp
theorem y_nilS {E : TypeId} {ad : Option Addr} {m c : Nat} (h : P.underlying T = some (.slice E)) (hx : ev n f x = .slice ad m c) (hy : ev n f y = .slice none 0 0) : Yl P n f ⟨d, .binOp .eql T x y T', ty, pos, af, gd⟩ w (.bool ad.isNone) := by
  have h1 := nilEq (w := w) (ad := ad) (m := m) (c := c) h
  simp [Yl, execOp, hx, hy, eqGuard, binOp, h1]

/-- What '==' says of two structs. -/
def EqOf (P : Program) (T : TypeId) (u v : Value) (r : Bool) : Prop := ∀ w, (Op.equalIn 10000 T u v).run P w = .ok r w
theorem y_eqlS {xs ys : Array Value} {r : Bool} (h : EqOf P T (.agg xs) (.agg ys) r) (hg : P.eqGuardType P.depth T = false) (hx : ev n f x = .agg xs) (hy : ev n f y = .agg ys) : Yl P n f ⟨d, .binOp .eql T x y T', ty, pos, af, gd⟩ w (.bool r) := by
  have h1 := run_eqGuard_agg w (P := P) .eql T x y xs ys hg
  have h2 := run_eql_struct w (P := P) T xs ys
  rw [h w] at h2
  simp [Yl, execOp, hx, hy, h1, h2]
theorem y_neqS {xs ys : Array Value} {r : Bool} (h : EqOf P T (.agg xs) (.agg ys) r) (hg : P.eqGuardType P.depth T = false) (hx : ev n f x = .agg xs) (hy : ev n f y = .agg ys) : Yl P n f ⟨d, .binOp .neq T x y T', ty, pos, af, gd⟩ w (.bool (!r)) := by
  have h1 := run_eqGuard_agg w (P := P) .neq T x y xs ys hg
  have h2 := run_neq_struct w (P := P) T xs ys
  rw [h w] at h2
  simp [Yl, execOp, hx, hy, h1, h2]

variable {α : Type} {E : TypeId} {enc : α → List Value} {sz lo hi : Nat} {ad : Option Addr} {c : Nat} {l : List α}

/-- An empty literal slice. -/
theorem d_bs0 {ps : Array (Nat × Operand)} (hlen : ∀ x, (enc x).length = sz)
    (h : (Instr.buildSlice T 0 #[]).run P w = .ok (.slice (some ⟨w.heap.size, 0, none⟩) 0 0) (w.alloc (.cells #[] E))) (hp : ps.toList = []) (hlo : lo ≤ w.heap.size)
    (k : ∀ b w', b = w.heap.size → w'.heap.size = b + 1 → Ext w w' → Ow E enc sz lo (b + 1) w' (some ⟨b, 0, none⟩) 0 ([] : List α) → K (.slice (some ⟨b, 0, none⟩) 0 0) w') :
    DoK P n f ⟨d, .buildSlice T 0 ps, ty, pos, af, gd⟩ w K := by
  have e : ps = #[] := by cases ps; simp at hp; subst hp; rfl
  subst e
  refine ⟨_, w.alloc (.cells #[] E), .inl (by simp [execOp, h]), k _ _ rfl (by simp) (Out.alloc w _) ⟨⟨by simp, .inr ⟨w.heap.size, 0, #[], by simp, hlo, heap_alloc_new w _, Nat.le_refl _, Nat.zero_le _, by simp, by simp⟩⟩, hlen, Nat.le_refl _⟩⟩

/-- 'append(s, xs..)' onto a slice of the call's own, out of any slice that is read. -/
theorem d_appS {a2 : Option Addr} {c2 m lo2 hi2 : Nat} {xs : List α} {z : Value} {bytes : Nat} {Ts : Array TypeId} (hO : Ow E enc sz lo hi w ad c l) (hT : SliceOf P T E sz) (hinfo : ∃ i, P.info? E = some i ∧ i.zero = some z ∧ i.size = sz ∧ i.bytes = bytes ∧ z.cells.size = sz) (hsz : 0 < sz)
    (hTs : Ts = #[T, T]) (hx : ev n f x = .slice ad l.length c) (hy : ev n f y = .slice a2 m c2) (hm : m = xs.length) (hsome : a2.isSome = true) (hS : Sl enc sz lo2 hi2 w a2 xs) (h1 : ∀ x, ones (enc x) = true)
    (h63 : l.length + xs.length ≤ maxLen) (hbytes : (l.length + xs.length) * bytes ≤ 140737488355328) (hlo : lo ≤ w.heap.size) (hhi : hi ≤ w.heap.size)
    (k : ∀ ad' c' w', Out (blk ad) (hi1 ad) w w' → Ow E enc sz lo w'.heap.size w' ad' c' (l ++ xs) → K (.slice ad' (l ++ xs).length c') w') :
    DoK P n f ⟨d, .call ⟨.builtin .append, #[x, y], Ts⟩, ty, pos, af, gd⟩ w K := by
  obtain ⟨i, hi', hiz, his, hib, hzs⟩ := hinfo
  subst hTs
  subst hm
  obtain ⟨a2, rfl⟩ := Option.isSome_iff_exists.1 hsome
  have hnl : (xs.flatMap enc).length = xs.length * sz := flat_len hO.len xs
  have hnews : ∀ j u, (xs.flatMap enc)[j]? = some u → w.cell? (a2.add j) = some u := fun j u hu => by
    have hj : j < xs.length * sz := by
      rw [← hnl]
      rcases Nat.lt_or_ge j (xs.flatMap enc).length with h | h
      · exact h
      · rw [List.getElem?_eq_none h] at hu; cases hu
    obtain ⟨h1, h2, h3⟩ := div_pos hj
    have hne : xs ≠ [] := by intro e; subst e; simp at hj
    obtain ⟨⟨b2, o2, e2⟩, _⟩ := hS.plain hne
    cases e2
    have hx := List.getElem?_eq_getElem h1
    have hg := flat_get hO.len xs _ _ hx _ h2
    rw [h3, hu] at hg
    have := hS.cell _ _ hx _ u hg.symm
    rw [Addr.add_lit]
    simp only [blk, off] at this
    rw [show o2 + j / sz * sz + j % sz = o2 + j by omega] at this
    exact this
  obtain ⟨v', w', hr, hown, hgr, hnil⟩ := run_append_own (P := P) w lo T ty E i z sz bytes hT.und hi' hiz his hib hzs hsz (.slice ad l.length c) l.length (l.flatMap enc) hO.owns a2 xs.length c2 (xs.flatMap enc) hnl
    hnews (fun u hu => by
      obtain ⟨x0, _, hux⟩ := List.mem_flatMap.1 hu
      exact ones_all (h1 x0) u hux) h63 hbytes hlo
  have hO' : Out (blk ad) (hi1 ad) w w' := Out.grown hgr (fun k hk => by
    cases ad with
    | none => simp [Value.ownBlock] at hk
    | some a => simp [Value.ownBlock] at hk; subst hk; exact ⟨Nat.le_refl _, by simp [hi1]⟩)
  have hform : ∃ ad' c', v' = .slice ad' (l ++ xs).length c' := by
    rcases hown.2 with ⟨h, h0⟩ | ⟨g, cap, cur, h, _⟩
    · exact ⟨none, 0, by rw [h]; simp; omega⟩
    · exact ⟨some ⟨g, 0, none⟩, cap, by rw [h]; simp⟩
  obtain ⟨ad', c', rfl⟩ := hform
  have hO2 : Ow E enc sz lo w'.heap.size w' ad' c' (l ++ xs) := by
    refine ⟨by rw [List.flatMap_append]; rw [List.length_append] at hown ⊢; exact hown, hO.len, ?_⟩
    rcases hown.2 with ⟨h, h0⟩ | ⟨g, cap, cur, h, _, hg, _⟩
    · simp at h; rw [h.1]; exact Nat.zero_le _
    · simp at h
      rw [h.1]
      have := (Array.getElem?_eq_some_iff.1 hg).1
      simp [hi1]; omega
  refine ⟨_, w', .inl ?_, k ad' c' w' hO' hO2⟩
  simp only [execOp, resolve, invoke, builtin, Sem.run_bind, Sem.run_pure, Result.andThen_ok, List.map_toArray, List.map_cons, List.map_nil, hx, hy, hr]
end
end Go.Wk
