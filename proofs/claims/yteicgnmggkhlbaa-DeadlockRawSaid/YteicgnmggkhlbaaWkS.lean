/-
  Arrays inside a struct's block; small integers; arrays as keys of a map.
-/
import Derived.Test.YteicgnmggkhlbaaWkM
import Derived.Test.YteicgnmggkhlbaaDk
import Derived.WideKeyArr
import Derived.IntWalk
namespace Go.Wk
open Go.RowKit Go.Maps Go.WideMaps
set_option linter.unusedVariables false
set_option linter.unusedSimpArgs false
section
variable {P : Program} {n : Nat} {f : Nat → Value} {d : Option Tmp} {ty : TypeId} {pos : String} {af : Array Edge} {gd : Option (Nat × Bool)} {w : World} {x y z : Operand} {T T' E : TypeId} {k : IntKind} {a b : Int}
/-- The address of an element of an array that begins at cell 'o' of its block; elements of one cell. -/
theorem y_ixF {m : Nat} {b0 o : Nat} {i : Int} (hT : P.underlying T = some (.array m E)) (hs : SzOf P E 1) (hx : ev n f x = .pointer (some ⟨b0, o, none⟩)) (hy : ev n f y = .int k i) (h0 : 0 ≤ i) (h1 : i < m) :
    Yl P n f ⟨d, .indexAddr T x y, ty, pos, af, gd⟩ w (.pointer (some ⟨b0, o + i.toNat, none⟩)) := by
  have hE : P.elem T = E := by simp [Program.elem, hT]
  have hL : P.arrayLen T = m := by simp [Program.arrayLen, hT]
  have := run_indexAt_array (P := P) w T ⟨b0, o, none⟩ k i (by rw [hE, hL]; exact hT)
  rw [hL, if_pos ⟨h0, h1⟩, hE, hs w] at this
  simp [Yl, execOp, hx, hy, this, Addr.add_lit, Result.andThen]
/-- A struct or an array that lies inside a block. -/
theorem y_lbI {b0 o : Nat} {cs ds : List Value} (hB : Blk w b0 cs) (h : AggOf P T ds.length) (hx : ev n f x = .pointer (some ⟨b0, o, none⟩)) (hs : ∀ j u, ds[j]? = some u → cs[o + j]? = some u) : Yl P n f ⟨d, .load T x, ty, pos, af, gd⟩ w (.agg ds.toArray) :=
  y_ldN h hx (fun j u hu => hB.cell (hs j u hu))
end
theorem Ow.take {α : Type} {E : TypeId} {enc : α → List Value} {sz lo hi : Nat} {w : World} {ad : Option Addr} {c : Nat} {l : List α} (h : Ow E enc sz lo hi w ad c l) (k : Nat) : Ow E enc sz lo hi w ad c (l.take k) := by
  have e1 : (l.take k).flatMap enc = (l.flatMap enc).take ((l.take k).length * sz) := by
    have e2 : l.flatMap enc = (l.take k).flatMap enc ++ (l.drop k).flatMap enc := by rw [← List.flatMap_append, List.take_append_drop]
    have e3 : ((l.take k).flatMap enc).length = (l.take k).length * sz := flat_len h.len _
    rw [e2, ← e3, List.take_left]
  refine ⟨⟨flat_len h.len _, ?_⟩, h.len, h.top⟩
  rcases h.owns.2 with ⟨h1, h2⟩ | ⟨g, cap, cur, h1, h2, h3, h4, h5, h6, h7⟩
  · refine .inl ⟨?_, by rw [List.length_take]; omega⟩
    simp at h1
    obtain ⟨rfl, _, rfl⟩ := h1
    rw [show (l.take k).length = 0 by rw [List.length_take]; omega]
  · simp at h1
    obtain ⟨rfl, rfl⟩ := h1
    have hl : (l.take k).length ≤ l.length := by rw [List.length_take]; omega
    refine .inr ⟨g, c, cur, rfl, h2, h3, by omega, h5, h6, ?_⟩
    rw [e1, ← h7, List.take_take, show min ((l.take k).length * sz) (l.length * sz) = (l.take k).length * sz from Nat.min_eq_left (Nat.mul_le_mul_right _ hl)]
/-- The cells of a state: the paths, the positions, the holders. -/
def stC (sv : Value) (A H : List Int) : List Value := sv :: (A.map (Value.int .i8) ++ H.map (Value.int .i64))
theorem stC_len {sv : Value} {A H : List Int} : (stC sv A H).length = 1 + A.length + H.length := by simp [stC]; omega
theorem stC_A {sv : Value} {A H : List Int} {i : Int} (h0 : 0 ≤ i) (h1 : i < A.length) : (stC sv A H)[0 + 1 + i.toNat]? = some (.int .i8 (el A i)) := by
  rw [show 0 + 1 + i.toNat = i.toNat + 1 by omega, stC, List.getElem?_cons_succ, List.getElem?_append_left (by simp; omega), List.getElem?_map, el_get h0 h1]; rfl
theorem stC_H {sv : Value} {A H : List Int} {i : Int} (hA : A.length = 10) (h0 : 0 ≤ i) (h1 : i < H.length) : (stC sv A H)[0 + 11 + i.toNat]? = some (.int .i64 (el H i)) := by
  rw [show 0 + 11 + i.toNat = (10 + i.toNat) + 1 by omega, stC, List.getElem?_cons_succ, List.getElem?_append_right (by simp; omega), List.getElem?_map]
  rw [show 10 + i.toNat - (A.map (Value.int .i8)).length = i.toNat by simp; omega, el_get h0 h1]; rfl
theorem stC_setA {sv : Value} {A H : List Int} {i : Nat} {v : Int} (h1 : i < A.length) : (stC sv A H).set (0 + 1 + i) (.int .i8 v) = stC sv (A.set i v) H := by
  rw [show 0 + 1 + i = i + 1 by omega, stC, List.set_cons_succ, List.set_append_left _ _ (by simpa using h1)]
  simp [stC, List.map_set]
theorem stC_setH {sv : Value} {A H : List Int} {i : Nat} {v : Int} (hA : A.length = 10) : (stC sv A H).set (0 + 11 + i) (.int .i64 v) = stC sv A (H.set i v) := by
  rw [show 0 + 11 + i = (10 + i) + 1 by omega, stC, List.set_cons_succ, List.set_append_right _ _ (by simp; omega)]
  rw [show 10 + i - (A.map (Value.int .i8)).length = i by simp; omega]
  simp [stC, List.map_set]
theorem stC_at {sv : Value} {A H : List Int} : ∀ (j : Nat) (u : Value), (A.map (Value.int .i8))[j]? = some u → (stC sv A H)[0 + 1 + j]? = some u := by
  intro j u hu
  have hj : j < (A.map (Value.int .i8)).length := (List.getElem?_eq_some_iff.1 hu).1
  rw [show 0 + 1 + j = j + 1 by omega, stC, List.getElem?_cons_succ, List.getElem?_append_left hj]; exact hu
theorem i8_in {a : Int} (h : -128 ≤ a ∧ a ≤ 127) : IntKind.i8.wrap a = a := by
  simp only [IntKind.wrap, show IntKind.i8.bits = 8 from rfl, show IntKind.i8.signed = true from rfl]; simp; omega
theorem i64_in {a : Int} (h : -128 ≤ a ∧ a ≤ 127) : IntKind.i64.wrap a = a := by
  simp only [IntKind.wrap, show IntKind.i64.bits = 64 from rfl, show IntKind.i64.signed = true from rfl]; simp; omega

/-! ### Positions as a key -/
def enc8 (A : List Int) : Value := .agg (A.map (Value.int .i8)).toArray
theorem map_i8_inj : ∀ {A B : List Int}, A.map (Value.int .i8) = B.map (Value.int .i8) → A = B
  | [], [], _ => rfl
  | [], b :: B, h => by simp at h
  | a :: A, [], h => by simp at h
  | a :: A, b :: B, h => by
    simp only [List.map_cons, List.cons.injEq, Value.int.injEq, true_and] at h
    rw [h.1, map_i8_inj h.2]
theorem enc8_inj {A : List Int} : ∀ B, enc8 B = enc8 A → B = A := fun B h => by
  unfold enc8 at h
  have h1 : (B.map (Value.int .i8)).toArray = (A.map (Value.int .i8)).toArray := by injection h
  exact map_i8_inj (by simpa using congrArg Array.toList h1)
theorem key8 {P : Program} {k e : TypeId} (K : ArrKey P k e 10) (he : P.underlying e = some (.int .i8)) (hsz : ∃ m, P.types.size = m + 1) {A : List Int} (hA : A.length = 10) (hr : ∀ x ∈ A, -128 ≤ x ∧ x ≤ 127) : ∃ kl, keyOf P k (enc8 A) = some kl := by
  have hkt := K.keyType hsz
  obtain ⟨m, hm⟩ := hsz
  have hwf : ∀ x ∈ A, (Lit.int .i8 x).wf = true := fun x hx => by
    have := hr x hx
    simp only [Lit.wf, show IntKind.i8.min = -128 from rfl, show IntKind.i8.max = 127 from rfl]
    simp; omega
  match A, hA, hwf with
  | [a0, a1, a2, a3, a4, a5, a6, a7, a8, a9], _, hwf =>
    unfold keyOf
    simp only [K.hu]
    rw [if_pos (by simp [hkt, enc8, Value.formed, K.hu, K.size]), hm]
    unfold Program.keyLits
    simp only [K.hu, enc8, Value.cells]
    rw [if_pos (by rw [K.size]; rfl), show List.range 10 = [0, 1, 2, 3, 4, 5, 6, 7, 8, 9] from rfl]
    simp only [List.mapM_cons, List.mapM_nil]
    have h0 := hwf a0 (by simp); have h1 := hwf a1 (by simp); have h2 := hwf a2 (by simp); have h3 := hwf a3 (by simp); have h4 := hwf a4 (by simp)
    have h5 := hwf a5 (by simp); have h6 := hwf a6 (by simp); have h7 := hwf a7 (by simp); have h8 := hwf a8 (by simp); have h9 := hwf a9 (by simp)
    simp [K.one, Program.keyLits, he, h0, h1, h2, h3, h4, h5, h6, h7, h8, h9]
/-- Positions, filled up with 0. -/
def pad (l : List Int) : List Int := l ++ List.replicate (10 - l.length) 0
theorem pad_len {l : List Int} (h : l.length ≤ 10) : (pad l).length = 10 := by simp [pad]; omega
theorem pad_el {l : List Int} {i : Int} (h0 : 0 ≤ i) (h1 : i < l.length) : el (pad l) i = el l i := by
  simp only [el, List.getD_eq_getElem?_getD, pad]
  rw [List.getElem?_append_left (by omega)]
theorem pad_set {l : List Int} {i : Nat} {v : Int} (h : i < l.length) : (pad l).set i v = pad (l.set i v) := by
  simp only [pad]; rw [List.set_append_left _ _ h]; simp
theorem pad_inj {l l' : List Int} (h : l.length = l'.length) (e : pad l = pad l') : l = l' := (List.append_inj e h).1
theorem pad_rng {l : List Int} (h : ∀ x ∈ l, -128 ≤ x ∧ x ≤ 127) : ∀ x ∈ pad l, -128 ≤ x ∧ x ≤ 127 := fun x hx => by
  rcases List.mem_append.1 hx with q | q
  · exact h x q
  · have := (List.mem_replicate.1 q).2; omega
theorem pad_mem {l : List Int} {s : List (List Int)} (h : ∀ x ∈ s, x.length = l.length) : pad l ∈ s.map pad ↔ l ∈ s := by
  constructor
  · intro q
    obtain ⟨c, hc, e⟩ := List.mem_map.1 q
    rw [← pad_inj (h c hc) e]; exact hc
  · exact fun q => List.mem_map.2 ⟨l, q, rfl⟩
end Go.Wk
