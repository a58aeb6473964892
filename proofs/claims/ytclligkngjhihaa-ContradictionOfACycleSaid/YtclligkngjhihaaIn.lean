/-
  Arguments that come in: slices of structs of numbers, networks.
-/
import Derived.Test.YtclligkngjhihaaBase
import Derived.Lib.SmallJoins
import Derived.Deep.Slices
namespace Go.Wk
open Go.ChangeShapes Go.WideShapes Go.Deep
set_option linter.unusedVariables false
set_option linter.unusedSimpArgs false

section
variable {H : Type} {enc : TypeId × Value → H} {P : Program} {w : World} {base : Nat} {spare : Nat → Bool} {held : Bool}

/-- A struct all of whose fields are numbers of one cell. -/
theorem ints_struct {t : TypeId} {fs : Array Field} {m fuel : Nat} {cs : List Value} {x : DataW H × List MemPlace} (ht : P.underlying t = some (.struct fs)) (hm : P.cellsOf t = m) (hs : fs.size = m)
    (hf : ∀ (i : Nat) (f : Field), fs[i]? = some f → f.offset = i ∧ P.cellsOf f.type = 1 ∧ P.underlying f.type = some (.int .i64)) (h : DataW.trod enc P w base spare held fuel t cs = some x) :
    cs.length = m ∧ ∀ i, i < m → ∃ z : Int, cs[i]? = some (.int .i64 z) ∧ (Lit.int .i64 z).wf = true := by
  obtain ⟨xs, n, _, _, hl, hlen, hx⟩ := DataW.trod_struct ht h
  refine ⟨hl.trans hm, fun i hi => ?_⟩
  have hi' : i < fs.size := by omega
  obtain ⟨h1, h2, h3⟩ := hf i fs[i] (Array.getElem?_eq_getElem hi')
  have h4 := hx i fs[i] (Array.getElem?_eq_getElem hi')
  rw [List.getElem?_eq_getElem (by omega), h1, h2] at h4
  obtain ⟨z, hz, _, hw⟩ := DataW.trod_int h3 h4
  refine ⟨z, ?_, hw⟩
  have h5 : ((cs.drop i).take 1)[0]? = some (.int .i64 z) := by rw [hz]; rfl
  simpa using h5

theorem cells_get {w : World} {base : Nat} {a : Addr} {n : Nat} {cs : List Value} (h : w.cells? base a n = some cs) : cs.length = n ∧ ∀ j y, cs[j]? = some y → w.cell? (a.add j) = some y := by
  obtain ⟨_, h1, h2⟩ := World.cells?_some h
  refine ⟨h1, fun j y hy => ?_⟩
  have hj : j < cs.length := by
    rcases Nat.lt_or_ge j cs.length with h | h
    · exact h
    · rw [List.getElem?_eq_none h] at hy; cases hy
  rw [h2 j (by omega), hy]

/-- A slice whose elements are read one by one. -/
theorem sl_of {α : Type} [Inhabited α] {en : α → List Value} {Q : α → Prop} {sz : Nat} {t e : TypeId} {fuel : Nat} {cs : List Value} {x : DataW H × List MemPlace} (ht : P.underlying t = some (.slice e)) (hc : P.cellsOf e = sz) (hsz : 0 < sz) (hen : ∀ a, (en a).length = sz)
    (hel : ∀ n cs x, DataW.trod enc P w base spare held n e cs = some x → ∃ a, cs = en a ∧ Q a) (h : DataW.trod enc P w base spare held fuel t cs = some x) :
    ∃ ad cap, ∃ l : List α, cs = [.slice ad l.length cap] ∧ (l.length : Int) ≤ 9223372036854775807 ∧ Sl en sz 0 w.heap.size w ad l ∧ (∀ a ∈ l, Q a) ∧ l.length ≤ cap := by
  rcases open_slice ht h with ⟨rfl, _⟩ | ⟨a, len, cap, m, n, D, Pl, rfl, hb, h1, h2, hm, _, hi⟩
  · exact ⟨none, 0, [], rfl, by simp, ⟨fun h => absurd rfl h, fun i x hx => by simp at hx⟩, (fun a ha => by cases ha), Nat.le_refl _⟩
  · have hlm : len ≤ m := by rw [hm]; split <;> omega
    unfold maxLen at h2
    have hx : ∀ i, i < len → ∃ y : α, w.cells? base (a.add (i * sz)) sz = some (en y) ∧ Q y := fun i hil => by
      obtain ⟨cs', k1, k2⟩ := hi i (by omega)
      obtain ⟨y, rfl, hq⟩ := hel _ _ _ k2
      rw [hc] at k1
      exact ⟨y, k1, hq⟩
    obtain ⟨f, hf⟩ := choose_lt hx
    have hlen : ((List.range len).map f).length = len := by simp
    have hgx : ∀ i y, ((List.range len).map f)[i]? = some y → i < len ∧ y = f i := fun i y hy => by
      simp only [List.getElem?_map, Option.map_eq_some_iff] at hy
      obtain ⟨q, hq, rfl⟩ := hy
      have : i < len := by
        rcases Nat.lt_or_ge i (List.range len).length with h | h
        · simpa using h
        · rw [List.getElem?_eq_none h] at hq; cases hq
      rw [List.getElem?_range this] at hq
      cases hq
      exact ⟨this, rfl⟩
    have hcl : ∀ i, i < len → ∀ j y, (en (f i))[j]? = some y → w.cell? (a.add (i * sz + j)) = some y := fun i hil j y hy => by
      have := (cells_get (hf i hil).1).2 j y hy
      rwa [add_add] at this
    have hsp : 0 < len → ∃ b o, a = ⟨b, o, none⟩ ∧ b < w.heap.size := fun h0 => by
      cases he : en (f 0) with
      | nil => have := hen (f 0); rw [he] at this; simp at this; omega
      | cons y ys =>
        have := hcl 0 h0 0 y (by rw [he]; rfl)
        rw [show a.add (0 * sz + 0) = a by simp [Addr.add]] at this
        obtain ⟨b, o, rfl⟩ := cell_spot this
        exact ⟨b, o, rfl, World.block_lt_of_cell? _ _ this⟩
    refine ⟨some a, cap, (List.range len).map f, by rw [hlen], by rw [hlen]; omega, ⟨fun hne => ?_, fun i y hy j z hz => ?_⟩, fun y hy => ?_, by rw [hlen]; exact h1⟩
    · have h0 : 0 < len := by
        rcases Nat.eq_zero_or_pos len with h0 | h0
        · subst h0; simp at hne
        · exact h0
      obtain ⟨b, o, rfl, hbl⟩ := hsp h0
      exact ⟨⟨_, _, rfl⟩, Nat.zero_le _, hbl⟩
    · obtain ⟨hil, rfl⟩ := hgx i y hy
      obtain ⟨b, o, rfl, hbl⟩ := hsp (by omega)
      have := hcl i hil j z hz
      rw [Addr.add_lit] at this
      rw [show off (some ⟨b, o, none⟩) + i * sz + j = o + (i * sz + j) by simp [off]; omega]
      exact this
    · obtain ⟨i, hi, rfl⟩ := List.mem_map.1 hy
      exact (hf i (by simpa using hi)).2

theorem list3 {α : Type} {l : List α} (h : l.length = 3) : ∃ a b c, l = [a, b, c] := by
  match l, h with
  | [a, b, c], _ => exact ⟨a, b, c, rfl⟩
theorem list6 {α : Type} {l : List α} (h : l.length = 6) : ∃ a b c d e f, l = [a, b, c, d, e, f] := by
  match l, h with
  | [a, b, c, d, e, f], _ => exact ⟨a, b, c, d, e, f, rfl⟩

abbrev wf64 (z : Int) : Prop := (Lit.int .i64 z).wf = true
theorem ev_of {t : TypeId} {fs : Array Field} {fuel : Nat} {cs : List Value} {x : DataW H × List MemPlace} (ht : P.underlying t = some (.struct fs)) (hm : P.cellsOf t = 3) (hs : fs.size = 3)
    (hf : ∀ (i : Nat) (f : Field), fs[i]? = some f → f.offset = i ∧ P.cellsOf f.type = 1 ∧ P.underlying f.type = some (.int .i64)) (h : DataW.trod enc P w base spare held fuel t cs = some x) :
    ∃ a : Ev, cs = encEv a ∧ (wf64 a.kd ∧ wf64 a.ln ∧ wf64 a.rd) := by
  obtain ⟨hl, hz⟩ := ints_struct ht hm hs hf h
  obtain ⟨c0, c1, c2, rfl⟩ := list3 hl
  obtain ⟨z0, e0, w0⟩ := hz 0 (by omega)
  obtain ⟨z1, e1, w1⟩ := hz 1 (by omega)
  obtain ⟨z2, e2, w2⟩ := hz 2 (by omega)
  simp at e0 e1 e2
  exact ⟨⟨z0, z1, z2⟩, by rw [e0, e1, e2]; rfl, w0, w1, w2⟩
theorem ac_of {t : TypeId} {fs : Array Field} {fuel : Nat} {cs : List Value} {x : DataW H × List MemPlace} (ht : P.underlying t = some (.struct fs)) (hm : P.cellsOf t = 6) (hs : fs.size = 6)
    (hf : ∀ (i : Nat) (f : Field), fs[i]? = some f → f.offset = i ∧ P.cellsOf f.type = 1 ∧ P.underlying f.type = some (.int .i64)) (h : DataW.trod enc P w base spare held fuel t cs = some x) :
    ∃ a : Ac, cs = encAc a ∧ (wf64 a.kd ∧ wf64 a.fr ∧ wf64 a.tt ∧ wf64 a.mn ∧ wf64 a.mx ∧ wf64 a.wt) := by
  obtain ⟨hl, hz⟩ := ints_struct ht hm hs hf h
  obtain ⟨c0, c1, c2, c3, c4, c5, rfl⟩ := list6 hl
  obtain ⟨z0, e0, w0⟩ := hz 0 (by omega)
  obtain ⟨z1, e1, w1⟩ := hz 1 (by omega)
  obtain ⟨z2, e2, w2⟩ := hz 2 (by omega)
  obtain ⟨z3, e3, w3⟩ := hz 3 (by omega)
  obtain ⟨z4, e4, w4⟩ := hz 4 (by omega)
  obtain ⟨z5, e5, w5⟩ := hz 5 (by omega)
  simp at e0 e1 e2 e3 e4 e5
  exact ⟨⟨z0, z1, z2, z3, z4, z5⟩, by rw [e0, e1, e2, e3, e4, e5]; rfl, w0, w1, w2, w3, w4, w5⟩

/-- What is known of a network that came in. -/
structure NetWf (N : Net) : Prop where
  p : wf64 N.p
  ne : (N.evs.length : Int) ≤ 9223372036854775807
  na : (N.acts.length : Int) ≤ 9223372036854775807
  evs : ∀ a ∈ N.evs, wf64 a.kd ∧ wf64 a.ln ∧ wf64 a.rd
  acts : ∀ a ∈ N.acts, wf64 a.kd ∧ wf64 a.fr ∧ wf64 a.tt ∧ wf64 a.mn ∧ wf64 a.mx ∧ wf64 a.wt

theorem net_of {r : Reach} {b0 : Nat} {t ee ea : TypeId} {f0 f1 f2 : Field} {fe fa : Array Field} {v : Value} {d : DataW H} {p : List MemPlace}
    (hs : P.underlying t = some (.struct #[f0, f1, f2])) (hone : oneCellFields P #[f0, f1, f2] = true) (hC : P.cellsOf t = 3)
    (h0 : P.underlying f0.type = some (.int .i64)) (h1 : P.underlying f1.type = some (.slice ee)) (h2 : P.underlying f2.type = some (.slice ea))
    (he : P.underlying ee = some (.struct fe)) (hce : P.cellsOf ee = 3) (hse : fe.size = 3) (hfe : ∀ (i : Nat) (f : Field), fe[i]? = some f → f.offset = i ∧ P.cellsOf f.type = 1 ∧ P.underlying f.type = some (.int .i64))
    (ha : P.underlying ea = some (.struct fa)) (hca : P.cellsOf ea = 6) (hsa : fa.size = 6) (hfa : ∀ (i : Nat) (f : Field), fa[i]? = some f → f.offset = i ∧ P.cellsOf f.type = 1 ∧ P.underlying f.type = some (.int .i64))
    (hv : Value.okWide P w r b0 t v) (h : DataW.Trod enc P w base spare held t v d p) :
    ∃ N A, v = netV N A ∧ NetIn 0 w.heap.size w N A ∧ NetWf N := by
  obtain ⟨c0, c1, c2, y0, y1, y2, n, rfl, _, _, k0, k1, k2⟩ := Joins.open_agg3 hs hone hC hv h
  obtain ⟨z, hz, _, hw⟩ := DataW.trod_int h0 k0
  obtain ⟨ae, ce, le, e1, n1, s1, q1⟩ := sl_of (en := encEv) h1 hce (by decide) (fun _ => rfl) (fun n cs x h => ev_of he hce hse hfe h) k1
  obtain ⟨aa, ca, la, e2, n2, s2, q2⟩ := sl_of (en := encAc) h2 hca (by decide) (fun _ => rfl) (fun n cs x h => ac_of ha hca hsa hfa h) k2
  simp at hz e1 e2
  subst hz e1 e2
  exact ⟨⟨z, le, la⟩, ⟨ae, ce, aa, ca⟩, rfl, ⟨s1, s2⟩, hw, n1, n2, q1.1, q2.1⟩
end
end Go.Wk
