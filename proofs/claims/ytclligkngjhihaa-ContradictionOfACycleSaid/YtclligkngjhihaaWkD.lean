/-
  Memory: which blocks may have turned, blocks that are known whole, slices that are read, slices of the call's own; the operations that make or write memory.
-/
import Derived.Test.YtclligkngjhihaaWkC
namespace Go.Wk
open Go.RowKit
set_option linter.unusedVariables false
set_option linter.unusedSimpArgs false

/-! ### What may have turned -/

structure Out (a b : Nat) (w w' : World) : Prop where
  os : w'.os = w.os
  tape : w'.tape = w.tape
  output : w'.output = w.output
  size : w.heap.size ≤ w'.heap.size
  block : ∀ k, k < w.heap.size → (k < a ∨ b ≤ k) → w'.heap[k]? = w.heap[k]?

abbrev Ext (w w' : World) : Prop := Out 0 0 w w'

theorem Out.refl (a b : Nat) (w : World) : Out a b w w := ⟨rfl, rfl, rfl, Nat.le_refl _, fun _ _ _ => rfl⟩
theorem Ext.refl (w : World) : Ext w w := Out.refl 0 0 w
theorem Out.trans {a b : Nat} {w w1 w2 : World} (h : Out a b w w1) (k : Out a b w1 w2) : Out a b w w2 :=
  ⟨k.os.trans h.os, k.tape.trans h.tape, k.output.trans h.output, Nat.le_trans h.size k.size, fun i hi hs => (k.block i (Nat.lt_of_lt_of_le hi h.size) hs).trans (h.block i hi hs)⟩
theorem Out.wide {a b a' b' : Nat} {w w1 : World} (h : Out a b w w1) (hs : b ≤ a ∨ (a' ≤ a ∧ b ≤ b')) : Out a' b' w w1 :=
  ⟨h.os, h.tape, h.output, h.size, fun i hi hk => h.block i hi (by omega)⟩
theorem Out.step {a b a' b' : Nat} {w w1 w2 : World} (h : Out a b w w1) (k : Out a' b' w1 w2) (hs : b' ≤ a' ∨ (a ≤ a' ∧ b' ≤ b) ∨ w.heap.size ≤ a') : Out a b w w2 :=
  ⟨k.os.trans h.os, k.tape.trans h.tape, k.output.trans h.output, Nat.le_trans h.size k.size, fun i hi hk => (k.block i (Nat.lt_of_lt_of_le hi h.size) (by omega)).trans (h.block i hi hk)⟩
theorem Out.below {w w1 : World} {a b N : Nat} (h : Out a b w w1) (hN : N ≤ w.heap.size) (hs : b ≤ a ∨ N ≤ a) : Below N w w1 :=
  ⟨h.os, h.tape, h.output, h.size, fun k hk => h.block k (by omega) (by omega)⟩
theorem Out.drew (w : World) : Ext w { w with drawn := w.drawn + 1 } := ⟨rfl, rfl, rfl, Nat.le_refl _, fun _ _ _ => rfl⟩
theorem Out.alloc (w : World) (o : Obj) : Ext w (w.alloc o) := ⟨rfl, rfl, rfl, by simp, fun k hk _ => Below.heap_alloc w o k hk⟩
theorem Out.setRow (w : World) (g : Nat) (cs : Array Value) : Out g (g + 1) w (w.setRow g cs) := ⟨rfl, rfl, rfl, by simp, fun k _ hk => setRow_other w g k _ (by omega)⟩
theorem Out.grown {w w' : World} {row : Option Nat} (h : w.grownBy w' row) {a b : Nat} (hr : ∀ k, row = some k → a ≤ k ∧ k < b) : Out a b w w' :=
  ⟨h.os, h.tape, h.output, h.size, fun k hk hs => h.block k hk (fun e => by have := hr k e.symm; omega)⟩
theorem Out.cell {a b : Nat} {w w' : World} (h : Out a b w w') {ad : Addr} {v : Value} (hc : w.cell? ad = some v) (hs : ad.block < a ∨ b ≤ ad.block) : w'.cell? ad = some v :=
  (World.cell?_of_block (h.block ad.block (World.block_lt_of_cell? w ad hc) hs)).trans hc

/-! ### A block that is known whole -/

def Blk (w : World) (b : Nat) (cs : List Value) : Prop := ∃ T, w.heap[b]? = some (.cells cs.toArray T (0, 0))

theorem Blk.lt {w : World} {b : Nat} {cs : List Value} (h : Blk w b cs) : b < w.heap.size := by
  obtain ⟨T, h⟩ := h; exact (Array.getElem?_eq_some_iff.1 h).1
theorem Blk.out {a' b' : Nat} {w w' : World} {b : Nat} {cs : List Value} (h : Blk w b cs) (ho : Out a' b' w w') (hs : b < a' ∨ b' ≤ b) : Blk w' b cs := by
  have hl := h.lt
  obtain ⟨T, h⟩ := h
  exact ⟨T, (ho.block b hl hs).trans h⟩
theorem Blk.ext {w w' : World} {b : Nat} {cs : List Value} (h : Blk w b cs) (ho : Ext w w') : Blk w' b cs := h.out ho (.inr (Nat.zero_le _))
theorem Blk.cell {w : World} {b : Nat} {cs : List Value} (h : Blk w b cs) {i : Nat} {v : Value} (hi : cs[i]? = some v) : w.cell? ⟨b, i, none⟩ = some v := by
  obtain ⟨T, h⟩ := h
  rw [cell_of_row w b i cs.toArray T (0, 0) h]; simpa using hi

/-! ### Slices that are read -/

def el {α : Type} [Inhabited α] (l : List α) (i : Int) : α := l.getD i.toNat default

theorem el_get {α : Type} [Inhabited α] {l : List α} {i : Int} (_h0 : 0 ≤ i) (h1 : i < l.length) : l[i.toNat]? = some (el l i) := by
  have h : i.toNat < l.length := by omega
  simp [el, List.getD_eq_getElem?_getD, h]

structure Sl {α : Type} (enc : α → List Value) (sz lo hi : Nat) (w : World) (ad : Option Addr) (l : List α) : Prop where
  plain : l ≠ [] → plainA ad ∧ lo ≤ blk ad ∧ blk ad < hi
  cell : ∀ i x, l[i]? = some x → ∀ j y, (enc x)[j]? = some y → w.cell? ⟨blk ad, off ad + i * sz + j, none⟩ = some y

section
variable {α : Type} {enc : α → List Value} {sz lo hi : Nat} {w w' : World} {ad : Option Addr} {l : List α}

theorem Sl.out {a b : Nat} (h : Sl enc sz lo hi w ad l) (ho : Out a b w w') (hs : hi ≤ a ∨ b ≤ lo ∨ b ≤ a) : Sl enc sz lo hi w' ad l :=
  ⟨h.plain, fun i x hx j y hy => ho.cell (h.cell i x hx j y hy) (by
    have hne : l ≠ [] := by intro he; subst he; simp at hx
    have := h.plain hne
    show blk ad < a ∨ b ≤ blk ad
    omega)⟩
theorem Sl.ext (h : Sl enc sz lo hi w ad l) (ho : Ext w w') : Sl enc sz lo hi w' ad l := h.out ho (.inr (.inr (Nat.le_refl _)))
theorem Sl.wide {lo' hi' : Nat} (h : Sl enc sz lo hi w ad l) (h1 : lo' ≤ lo) (h2 : hi ≤ hi') : Sl enc sz lo' hi' w ad l :=
  ⟨fun hne => by have := h.plain hne; exact ⟨this.1, by omega, by omega⟩, h.cell⟩
theorem Sl.full (henc : ∀ x, enc x ≠ []) (h : Sl enc sz lo hi w ad l) : Sl enc sz 0 w.heap.size w ad l := by
  refine ⟨fun hne => ⟨(h.plain hne).1, Nat.zero_le _, ?_⟩, h.cell⟩
  cases l with
  | nil => exact absurd rfl hne
  | cons x r =>
    cases hx : enc x with
    | nil => exact absurd hx (henc x)
    | cons y ys =>
      have := h.cell 0 x rfl 0 y (by rw [hx]; rfl)
      exact World.block_lt_of_cell? _ _ this
theorem Sl.pl (h : Sl enc sz lo hi w ad l) {i : Int} (h0 : 0 ≤ i) (h1 : i < l.length) : plainA ad :=
  (h.plain (by intro he; subst he; simp at h1; omega)).1
end

section
variable {P : Program} {n : Nat} {f : Nat → Value} {d : Option Tmp} {ty : TypeId} {pos : String} {af : Array Edge} {gd : Option (Nat × Bool)} {w : World} {x y z : Operand} {T T' : TypeId} {u v : Value}

/-- A cell of a block that is known whole. -/
theorem y_lb {b o : Nat} {cs : List Value} (hB : Blk w b cs) (h : NotAgg P T) (hx : ev n f x = .pointer (some ⟨b, o, none⟩)) (hi : cs[o]? = some v) : Yl P n f ⟨d, .load T x, ty, pos, af, gd⟩ w v :=
  y_ld h hx (hB.cell hi)
/-- The whole block. -/
theorem y_lbN {b : Nat} {cs : List Value} (hB : Blk w b cs) (h : AggOf P T cs.length) (hx : ev n f x = .pointer (some ⟨b, 0, none⟩)) : Yl P n f ⟨d, .load T x, ty, pos, af, gd⟩ w (.agg cs.toArray) :=
  y_ldN h hx (fun j u hu => by rw [Nat.zero_add]; exact hB.cell hu)

variable {α : Type} {enc : α → List Value} {sz lo hi : Nat} {ad : Option Addr} {l : List α} {i : Int} {k : IntKind} {c : Nat} {E : TypeId}

/-- The address of an element. -/
theorem y_ix {m : Nat} (hS : Sl enc sz lo hi w ad l) (h : SliceOf P T E sz) (hx : ev n f x = .slice ad m c) (hm : m = l.length) (hy : ev n f y = .int k i) (h0 : 0 ≤ i) (h1 : i < l.length) :
    Yl P n f ⟨d, .indexAddr T x y, ty, pos, af, gd⟩ w (.pointer (some ⟨blk ad, off ad + i.toNat * sz, none⟩)) :=
  y_idx h hx hy (hS.pl h0 h1) h0 (by rw [hm]; exact h1)
variable [Inhabited α]
/-- An element of one cell. -/
theorem y_le (hS : Sl enc sz lo hi w ad l) (h : NotAgg P T) (hx : ev n f x = .pointer (some ⟨blk ad, off ad + i.toNat * sz, none⟩)) (h0 : 0 ≤ i) (h1 : i < l.length) (he : enc (el l i) = [v]) : Yl P n f ⟨d, .load T x, ty, pos, af, gd⟩ w v :=
  y_ld h hx (by have := hS.cell _ _ (el_get h0 h1) 0 v (by rw [he]; rfl); rwa [Nat.add_zero] at this)
/-- A field of an element. -/
theorem y_lf {j : Nat} (hS : Sl enc sz lo hi w ad l) (h : NotAgg P T) (hx : ev n f x = .pointer (some ⟨blk ad, off ad + i.toNat * sz + j, none⟩)) (h0 : 0 ≤ i) (h1 : i < l.length) (he : (enc (el l i))[j]? = some v) : Yl P n f ⟨d, .load T x, ty, pos, af, gd⟩ w v :=
  y_ld h hx (hS.cell _ _ (el_get h0 h1) j v he)
/-- An element of several cells, whole. -/
theorem y_lw (hS : Sl enc sz lo hi w ad l) (h : AggOf P T (enc (el l i)).length) (hx : ev n f x = .pointer (some ⟨blk ad, off ad + i.toNat * sz, none⟩)) (h0 : 0 ≤ i) (h1 : i < l.length) : Yl P n f ⟨d, .load T x, ty, pos, af, gd⟩ w (.agg (enc (el l i)).toArray) :=
  y_ldN h hx (fun j u hu => hS.cell _ _ (el_get h0 h1) j u hu)
end

/-! ### Slices of the call's own -/

def hi1 : Option Addr → Nat | some a => a.block + 1 | none => 0
theorem blk_some (a : Addr) : blk (some a) = a.block := rfl
theorem hi1_some (a : Addr) : hi1 (some a) = a.block + 1 := rfl

structure Ow {α : Type} (E : TypeId) (enc : α → List Value) (sz lo hi : Nat) (w : World) (ad : Option Addr) (c : Nat) (l : List α) : Prop where
  owns : w.ownsRow lo E sz (.slice ad l.length c) l.length (l.flatMap enc)
  len : ∀ x, (enc x).length = sz
  top : hi1 ad ≤ hi

theorem flat_get {α : Type} {enc : α → List Value} {sz : Nat} (hl : ∀ x, (enc x).length = sz) : ∀ (l : List α) (i : Nat) (x : α), l[i]? = some x → ∀ j, j < sz → (l.flatMap enc)[i * sz + j]? = (enc x)[j]?
  | [], i, x, h, _, _ => by simp at h
  | a :: l, 0, x, h, j, hj => by
    simp at h; subst h
    simp only [List.flatMap_cons, Nat.zero_mul, Nat.zero_add]
    rw [List.getElem?_append_left (by rw [hl]; exact hj)]
  | a :: l, i + 1, x, h, j, hj => by
    have h' : l[i]? = some x := by simpa using h
    simp only [List.flatMap_cons]
    have e : (i + 1) * sz + j = sz + (i * sz + j) := by rw [Nat.add_mul]; omega
    rw [e, List.getElem?_append_right (by rw [hl]; omega), hl, Nat.add_sub_cancel_left]
    exact flat_get hl l i x h' j hj

theorem flat_len {α : Type} {enc : α → List Value} {sz : Nat} (hl : ∀ x, (enc x).length = sz) (l : List α) : (l.flatMap enc).length = l.length * sz := by
  induction l with
  | nil => simp
  | cons a l ih => simp only [List.flatMap_cons, List.length_append, List.length_cons, hl, ih, Nat.add_mul]; omega

theorem div_pos {sz m k : Nat} (hm : m < k * sz) : m / sz < k ∧ m % sz < sz ∧ (m / sz) * sz + m % sz = m := by
  have hz : 0 < sz := by rcases Nat.eq_zero_or_pos sz with h | h; · subst h; simp at hm
                         · exact h
  refine ⟨(Nat.div_lt_iff_lt_mul hz).2 hm, Nat.mod_lt _ hz, ?_⟩
  rw [Nat.mul_comm]; exact Nat.div_add_mod m sz

/-- One cell of one element turned. -/
theorem flat_set {α : Type} {enc : α → List Value} {sz : Nat} (hl : ∀ x, (enc x).length = sz) {l : List α} {i j : Nat} {x x' : α} {v : Value} (hx : l[i]? = some x) (hj : j < sz) (he : enc x' = (enc x).set j v) :
    (l.flatMap enc).set (i * sz + j) v = (l.set i x').flatMap enc := by
  have hil : i < l.length := by
    rcases Nat.lt_or_ge i l.length with h | h
    · exact h
    · rw [List.getElem?_eq_none h] at hx; cases hx
  have hz : 0 < sz := by omega
  apply List.ext_getElem?
  intro m
  by_cases hm : m < l.length * sz
  · obtain ⟨h1, h2, h3⟩ := div_pos hm
    have hg : ∃ y, l[m / sz]? = some y := ⟨l[m / sz], List.getElem?_eq_getElem h1⟩
    obtain ⟨y, hy⟩ := hg
    by_cases hq : m / sz = i
    · have hyx : y = x := by rw [hq, hx] at hy; exact (Option.some.inj hy).symm
      subst hyx
      have hset : (l.set i x')[m / sz]? = some x' := by rw [hq, List.getElem?_set_self hil]
      rw [← h3, flat_get hl _ _ _ hset _ h2, he]
      by_cases hr : m % sz = j
      · have e : m / sz * sz + m % sz = i * sz + j := by rw [hq, hr]
        rw [e, List.getElem?_set_self (by rw [flat_len hl, ← e, h3]; exact hm), hr, List.getElem?_set_self (by rw [hl]; exact hj)]
      · have e : i * sz + j ≠ m / sz * sz + m % sz := by rw [hq]; omega
        rw [List.getElem?_set_ne e, List.getElem?_set_ne (Ne.symm hr), flat_get hl _ _ _ hy _ h2]
    · have hset : (l.set i x')[m / sz]? = some y := by rw [List.getElem?_set_ne (Ne.symm hq)]; exact hy
      have e : i * sz + j ≠ m := by
        intro e
        apply hq
        rw [← e, Nat.mul_comm, Nat.mul_add_div hz, Nat.div_eq_of_lt hj, Nat.add_zero]
      rw [List.getElem?_set_ne e, ← h3, flat_get hl _ _ _ hset _ h2, flat_get hl _ _ _ hy _ h2]
  · have e : i * sz + j ≠ m := by
      have : i * sz + sz ≤ l.length * sz := by rw [← Nat.succ_mul]; exact Nat.mul_le_mul_right _ hil
      omega
    rw [List.getElem?_set_ne e, List.getElem?_eq_none (by rw [flat_len hl]; omega), List.getElem?_eq_none (by rw [flat_len hl, List.length_set]; omega)]

section
variable {α : Type} {E : TypeId} {enc : α → List Value} {sz lo hi : Nat} {w w' : World} {ad : Option Addr} {c : Nat} {l : List α}

theorem Ow.form (h : Ow E enc sz lo hi w ad c l) : (ad = none ∧ l.length = 0 ∧ c = 0) ∨ ∃ g, ad = some ⟨g, 0, none⟩ ∧ lo ≤ g ∧ g < w.heap.size ∧ l.length ≤ c := by
  rcases h.owns.2 with ⟨h1, h2⟩ | ⟨g, cap, cur, h1, h2, h3, h4, _⟩
  · simp at h1; exact .inl ⟨h1.1, h2, h1.2.2⟩
  · simp at h1
    obtain ⟨rfl, rfl⟩ := h1
    exact .inr ⟨g, rfl, h2, (Array.getElem?_eq_some_iff.1 h3).1, h4⟩
theorem Ow.rng (h : Ow E enc sz lo hi w ad c l) : (blk ad = 0 ∧ hi1 ad = 0) ∨ (lo ≤ blk ad ∧ blk ad < w.heap.size ∧ hi1 ad = blk ad + 1 ∧ blk ad < hi) := by
  have ht := h.top
  rcases h.form with ⟨rfl, _⟩ | ⟨g, rfl, h1, h2, _⟩
  · exact .inl ⟨rfl, rfl⟩
  · exact .inr ⟨h1, h2, rfl, ht⟩
theorem Ow.sl (h : Ow E enc sz lo hi w ad c l) : Sl enc sz lo hi w ad l := by
  have ht := h.top
  rcases h.form with ⟨rfl, hl, _⟩ | ⟨g, rfl, h1, h2, _⟩
  · have hn : l = [] := List.eq_nil_of_length_eq_zero hl
    subst hn
    exact ⟨fun hne => absurd rfl hne, fun i x hx => by simp at hx⟩
  · refine ⟨fun _ => ⟨⟨g, 0, rfl⟩, h1, ht⟩, fun i x hx j y hy => ?_⟩
    have hj : j < sz := by
      rw [← h.len x]
      rcases Nat.lt_or_ge j (enc x).length with h' | h'
      · exact h'
      · rw [List.getElem?_eq_none h'] at hy; cases hy
    have hf := flat_get h.len l i x hx j hj
    rw [hy] at hf
    have := h.owns.cells (g := g) rfl _ _ hf
    rw [Addr.add_lit] at this
    simpa [blk, off] using this
theorem Ow.out {a b : Nat} (h : Ow E enc sz lo hi w ad c l) (ho : Out a b w w') (hs : blk ad < a ∨ b ≤ blk ad ∨ hi1 ad = 0) : Ow E enc sz lo hi w' ad c l := by
  refine ⟨⟨h.owns.1, ?_⟩, h.len, h.top⟩
  rcases h.owns.2 with h1 | ⟨g, cap, cur, h1, h2, h3, rest⟩
  · exact .inl h1
  · refine .inr ⟨g, cap, cur, h1, h2, ?_, rest⟩
    simp at h1
    obtain ⟨rfl, _⟩ := h1
    rw [ho.block g (Array.getElem?_eq_some_iff.1 h3).1 (by simp [blk, hi1] at hs; exact hs)]
    exact h3
theorem Ow.ext (h : Ow E enc sz lo hi w ad c l) (ho : Ext w w') : Ow E enc sz lo hi w' ad c l := h.out ho (.inr (.inl (Nat.zero_le _)))
theorem Ow.wide {hi' : Nat} (h : Ow E enc sz lo hi w ad c l) (h2 : hi ≤ hi') : Ow E enc sz lo hi' w ad c l := ⟨h.owns, h.len, Nat.le_trans h.top h2⟩
theorem Ow.lower {lo' : Nat} (h : Ow E enc sz lo hi w ad c l) (h2 : lo' ≤ lo) : Ow E enc sz lo' hi w ad c l := by
  refine ⟨⟨h.owns.1, ?_⟩, h.len, h.top⟩
  rcases h.owns.2 with h1 | ⟨g, cap, cur, h1, h3, rest⟩
  · exact .inl h1
  · exact .inr ⟨g, cap, cur, h1, Nat.le_trans h2 h3, rest⟩
theorem Ow.nil (hlen : ∀ x, (enc x).length = sz) : Ow E enc sz lo hi w none 0 ([] : List α) := ⟨World.ownsRow_nil w lo E sz, hlen, Nat.zero_le _⟩
theorem Ow.lenLe (h : Ow E enc sz lo hi w ad c l) : l.length ≤ c := by
  rcases h.form with ⟨_, h1, h2⟩ | ⟨g, _, _, _, h1⟩ <;> omega
end

/-! ### Operations that make or write memory -/

def Do (P : Program) (n : Nat) (f : Nat → Value) (o : Oper) (w : World) (v : Value) (w' : World) : Prop :=
  (execOp (ev n f) o).run P w = .ok (.value v) w' ∨ (v = undef ∧ (execOp (ev n f) o).run P w = .ok .skip w')

def DoK (P : Program) (n : Nat) (f : Nat → Value) (o : Oper) (w : World) (K : Value → World → Prop) : Prop := ∃ v w', Do P n f o w v w' ∧ K v w'

section
variable {P : Program} {ops : Array Oper} {Q : Exit → Act → World → Prop} {rest : List Oper} {n : Nat} {L : List (Nat × Value)} {B : Nat → Value} {w : World}
  {op : Op} {ty : TypeId} {pos : String} {af : Array Edge} {d : Nat}

theorem sd (h : DoK P n (lk L B) ⟨some d, op, ty, pos, af, none⟩ w (fun v w' => WL P ops Q rest (act n (lk ((d, v) :: L) B)) w')) :
    WL P ops Q (⟨some d, op, ty, pos, af, none⟩ :: rest) (act n (lk L B)) w := by
  obtain ⟨v, w', hd, hk⟩ := h
  refine ⟨wpList_plain rfl fun K hK => ?_⟩
  unfold Oper.wp
  rw [evals_act]
  rcases hd with hd | ⟨rfl, hd⟩ <;> rw [hd] <;> simp only [Oper.upon, act_put] <;> exact hK _ _ hk.out

theorem sd0 (h : DoK P n (lk L B) ⟨none, op, ty, pos, af, none⟩ w (fun _ w' => WL P ops Q rest (act n (lk L B)) w')) :
    WL P ops Q (⟨none, op, ty, pos, af, none⟩ :: rest) (act n (lk L B)) w := by
  obtain ⟨v, w', hd, hk⟩ := h
  refine ⟨wpList_plain rfl fun K hK => ?_⟩
  unfold Oper.wp
  rw [evals_act]
  rcases hd with hd | ⟨rfl, hd⟩ <;> rw [hd] <;> simp only [Oper.upon, Act.put] <;> exact hK _ _ hk.out

theorem sdg {j t : Nat} {want p : Bool} (hj : dstAt ops.toList j = some t) (hv : ev n (lk L B) (.tmp t) = .bool p) (hp : p = want)
    (h : DoK P n (lk L B) ⟨some d, op, ty, pos, af, some (j, want)⟩ w (fun v w' => WL P ops Q rest (act n (lk ((d, v) :: L) B)) w')) :
    WL P ops Q (⟨some d, op, ty, pos, af, some (j, want)⟩ :: rest) (act n (lk L B)) w := by
  obtain ⟨v, w', hd, hk⟩ := h
  refine ⟨wpList_step fun K hK => ?_⟩
  have hw : Region.wanted (⟨some d, op, ty, pos, af, some (j, want)⟩ : Oper) (yielded ops (act n (lk L B)).tmps) = true := by
    simp [Region.wanted, yielded_act hj hv, hp]
  rw [if_pos hw]
  unfold Oper.wp
  rw [evals_act]
  rcases hd with hd | ⟨rfl, hd⟩ <;> rw [hd] <;> simp only [Oper.upon, act_put] <;> exact hK _ _ hk.out

variable {G : World → Prop} {ch : Nat → Bool} {QT : Act → World → Prop} {i : Nat}

theorem td (hi : ch i = true) (h : DoK P n (lk L B) ⟨some d, op, ty, pos, af, none⟩ w (fun v w' => G w' ∧ WT P ops G ch QT rest (i + 1) (act n (lk ((d, v) :: L) B)) w')) :
    WT P ops G ch QT (⟨some d, op, ty, pos, af, none⟩ :: rest) i (act n (lk L B)) w := by
  obtain ⟨v, w', hd, hk⟩ := h
  refine ⟨?_⟩
  unfold wpT oStep1
  rw [if_pos (by simp [Region.wanted]), hi, if_pos rfl]
  unfold chn
  rw [evals_act]
  rcases hd with hd | ⟨rfl, hd⟩ <;> rw [hd] <;> simp only [chnUpon, act_put] <;> exact ⟨hk.1, hk.2.out⟩

theorem tdg {j t : Nat} {want p : Bool} (hi : ch i = true) (hj : dstAt ops.toList j = some t) (hv : ev n (lk L B) (.tmp t) = .bool p) (hp : p = want)
    (h : DoK P n (lk L B) ⟨some d, op, ty, pos, af, some (j, want)⟩ w (fun v w' => G w' ∧ WT P ops G ch QT rest (i + 1) (act n (lk ((d, v) :: L) B)) w')) :
    WT P ops G ch QT (⟨some d, op, ty, pos, af, some (j, want)⟩ :: rest) i (act n (lk L B)) w := by
  obtain ⟨v, w', hd, hk⟩ := h
  refine ⟨?_⟩
  unfold wpT oStep1
  rw [if_pos (by simp [Region.wanted, yielded_act hj hv, hp]), hi, if_pos rfl]
  unfold chn
  rw [evals_act]
  rcases hd with hd | ⟨rfl, hd⟩ <;> rw [hd] <;> simp only [chnUpon, act_put] <;> exact ⟨hk.1, hk.2.out⟩

/-- A region that draws its order: the head in the text's order, the tail behind it. -/
theorem rgD {id : Nat} {l : List Oper} {a : Act} (m : Nat) (G : World → Prop) (ch : Nat → Bool) (hm : P.follows .mixedOrders = true) (hB : textB l.toArray ch m = true)
    (h : ∀ w1, Ext w w1 → w1.heap.size = w.heap.size → G w1 ∧ WT P l.toArray G ch (fun a' w' => WL P l.toArray Q (l.drop m) a' w') (l.take m) 0 a w1) : (Code.region id l.toArray true).wp P Q a w := by
  have h1 := h _ (Out.drew w) rfl
  refine wp_region_text m G ch hm hB h1.1 (wpT_mono (fun _ _ h => h.out) _ _ _ _ h1.2.out)
end

def one : Value → Bool | .agg _ => false | .tuple _ => false | _ => true
def ones : List Value → Bool | [] => true | v :: r => one v && ones r
theorem one_eq (v : Value) : v.oneCell' = one v := by cases v <;> rfl
theorem ones_all {l : List Value} (h : ones l = true) : ∀ u ∈ l, u.oneCell' = true := by
  induction l with
  | nil => intro u hu; cases hu
  | cons v r ih =>
    simp only [ones, Bool.and_eq_true] at h
    intro u hu
    cases hu with
    | head => rw [one_eq]; exact h.1
    | tail _ hm => exact ih h.2 u hm

def ZeroOf (P : Program) (T : TypeId) (z : Value) : Prop := ∀ w, (zeroValue T).run P w = .ok z w

section
variable {P : Program} {n : Nat} {f : Nat → Value} {d : Option Tmp} {ty : TypeId} {pos : String} {af : Array Edge} {gd : Option (Nat × Bool)} {w : World} {x y : Operand} {T T' : TypeId} {u v : Value} {K : Value → World → Prop}

theorem heap_new (w : World) (cs : List Value) (T : TypeId) : Blk (w.alloc (.cells cs.toArray T)) w.heap.size cs := ⟨T, heap_alloc_new w _⟩

/-- A struct put into a box of its own. -/
theorem d_boxA {cs : List Value} (hx : ev n f x = .agg cs.toArray) (k : ∀ b w', b = w.heap.size → w'.heap.size = b + 1 → Ext w w' → Blk w' b cs → K (.pointer (some ⟨b, 0, none⟩)) w') :
    DoK P n f ⟨d, .box T x, ty, pos, af, gd⟩ w K :=
  ⟨_, w.alloc (.cells cs.toArray T), .inl (by simp [execOp, hx, Instr.box, newVar, newRow, Value.cells, newObj, Sem.run]), k _ _ rfl (by simp) (Out.alloc w _) (heap_new w cs T)⟩
theorem d_box1 (h1 : one v = true) (hx : ev n f x = v) (k : ∀ b w', b = w.heap.size → w'.heap.size = b + 1 → Ext w w' → Blk w' b [v] → K (.pointer (some ⟨b, 0, none⟩)) w') :
    DoK P n f ⟨d, .box T x, ty, pos, af, gd⟩ w K := by
  have hc : v.cells = #[v] := by cases v <;> simp_all [Value.cells, one]
  exact ⟨_, w.alloc (.cells [v].toArray T), .inl (by simp [execOp, hx, Instr.box, newVar, newRow, hc, newObj, Sem.run]), k _ _ rfl (by simp) (Out.alloc w _) (heap_new w [v] T)⟩
/-- A new variable, zero. -/
theorem d_allocA {cs : List Value} (hz : ZeroOf P T (.agg cs.toArray)) (k : ∀ b w', b = w.heap.size → w'.heap.size = b + 1 → Ext w w' → Blk w' b cs → K (.pointer (some ⟨b, 0, none⟩)) w') :
    DoK P n f ⟨d, .alloc T, ty, pos, af, gd⟩ w K :=
  ⟨_, w.alloc (.cells cs.toArray T), .inl (by simp [execOp, Instr.alloc, hz w, newVar, newRow, Value.cells, newObj, Sem.run]), k _ _ rfl (by simp) (Out.alloc w _) (heap_new w cs T)⟩
theorem d_alloc1 (h1 : one v = true) (hz : ZeroOf P T v) (k : ∀ b w', b = w.heap.size → w'.heap.size = b + 1 → Ext w w' → Blk w' b [v] → K (.pointer (some ⟨b, 0, none⟩)) w') :
    DoK P n f ⟨d, .alloc T, ty, pos, af, gd⟩ w K := by
  have hc : v.cells = #[v] := by cases v <;> simp_all [Value.cells, one]
  exact ⟨_, w.alloc (.cells [v].toArray T), .inl (by simp [execOp, Instr.alloc, hz w, newVar, newRow, hc, newObj, Sem.run]), k _ _ rfl (by simp) (Out.alloc w _) (heap_new w [v] T)⟩

theorem run_storeBlk {b o : Nat} {cs vs : List Value} (hB : Blk w b cs) (hfit : o + vs.length ≤ cs.length) (h1 : ones vs = true) :
    ∃ w', (storeCells ⟨b, o, none⟩ vs).run P w = .ok () w' ∧ w'.heap.size = w.heap.size ∧ Out b (b + 1) w w' ∧ Blk w' b (cs.take o ++ vs ++ cs.drop (o + vs.length)) := by
  obtain ⟨T, hB⟩ := hB
  have := run_storeCells_at P b o T vs 0 cs.toArray w hB (by simpa using hfit) (ones_all h1)
  simp only [Nat.add_zero] at this
  refine ⟨_, this, by simp, Out.setRow _ _ _, T, ?_⟩
  have h2 := setRow_heap w b cs.toArray (cs.take o ++ vs ++ cs.drop (o + vs.length)).toArray T (0, 0) hB
  simpa using h2

/-- A store of one cell into a block that is known whole. -/
theorem d_st {b o : Nat} {cs : List Value} (hB : Blk w b cs) (hT : SzOf P T 1) (hx : ev n f x = .pointer (some ⟨b, o, none⟩)) (hy : ev n f y = v) (h1 : one v = true) (hfit : o < cs.length)
    (k : ∀ w', w'.heap.size = w.heap.size → Out b (b + 1) w w' → Blk w' b (cs.set o v) → K undef w') : DoK P n f ⟨d, .store T x y, ty, pos, af, gd⟩ w K := by
  have hc : v.cells = #[v] := by cases v <;> simp_all [Value.cells, one]
  obtain ⟨w', hr, hs, ho, hb⟩ := run_storeBlk (P := P) (o := o) (vs := [v]) hB (by simp; omega) (by simp [ones, h1])
  refine ⟨undef, w', .inr ⟨rfl, ?_⟩, k w' hs ho ?_⟩
  · simp [execOp, hx, hy, Instr.storeAt, Instr.sureAddr, storeVar, hc, hT w, hr]
  · have e : cs.take o ++ [v] ++ cs.drop (o + [v].length) = cs.set o v := by
      rw [List.set_eq_take_append_cons_drop]; simp [hfit]
    rw [← e]; exact hb
/-- A struct stored over a whole block. -/
theorem d_stN {b : Nat} {cs vs : List Value} (hB : Blk w b cs) (hx : ev n f x = .pointer (some ⟨b, 0, none⟩)) (hy : ev n f y = .agg vs.toArray) (hT : SzOf P T vs.length) (h1 : ones vs = true) (hfit : vs.length = cs.length)
    (k : ∀ w', w'.heap.size = w.heap.size → Out b (b + 1) w w' → Blk w' b vs → K undef w') : DoK P n f ⟨d, .store T x y, ty, pos, af, gd⟩ w K := by
  obtain ⟨w', hr, hs, ho, hb⟩ := run_storeBlk (P := P) (o := 0) (vs := vs) hB (by omega) h1
  refine ⟨undef, w', .inr ⟨rfl, ?_⟩, k w' hs ho ?_⟩
  · simp [execOp, hx, hy, Instr.storeAt, Instr.sureAddr, storeVar, Value.cells, hT w, hr]
  · have e : cs.take 0 ++ vs ++ cs.drop (0 + vs.length) = vs := by simp [hfit]
    rw [e] at hb; exact hb

/-- A literal slice: a block of its own. -/
theorem d_bs {m : Nat} {ps : Array (Nat × Operand)} {qs : List (Nat × Value)} {cs : List Value} {E : TypeId}
    (h : (Instr.buildSlice T m qs.toArray).run P w = .ok (.slice (some ⟨w.heap.size, 0, none⟩) m m) (w.alloc (.cells cs.toArray E))) (hq : (ps.toList.map fun p => (p.1, ev n f p.2)) = qs)
    (k : ∀ b w', b = w.heap.size → w'.heap.size = b + 1 → Ext w w' → Blk w' b cs → K (.slice (some ⟨b, 0, none⟩) m m) w') :
    DoK P n f ⟨d, .buildSlice T m ps, ty, pos, af, gd⟩ w K := by
  have e : (ps.map fun (i, x) => (i, ev n f x)) = qs.toArray := by
    rw [← hq, ← Array.toList_map, Array.toArray_toList]
  exact ⟨_, w.alloc (.cells cs.toArray E), .inl (by simp [execOp, e, h]), k _ _ rfl (by simp) (Out.alloc w _) (heap_new w cs E)⟩

/-- A struct that lies in a block of its own is handed back. -/
theorem retC {fn : Func} {R : Value → World → Prop} {t b : Nat} {cs : List Value} {T : TypeId} (hr : fn.results = #[.cell t T]) (hB : Blk w b cs) (hT : AggOf P T cs.length) (hv : ev n f (.tmp t) = .pointer (some ⟨b, 0, none⟩)) (h : R (.agg cs.toArray) w) : PostV P fn R .ret (act n f) w := by
  obtain ⟨h1, h2⟩ := hT w
  have hl := run_loadCells_list (P := P) w ⟨b, 0, none⟩ cs (fun j u hu => by rw [Addr.add_lit, Nat.zero_add]; exact hB.cell hu)
  have hv' : (act n f).tmps.getD t undef = .pointer (some ⟨b, 0, none⟩) := by rw [act_getD]; exact hv
  have hv'' : (act n f).tmps[t]?.getD undef = .pointer (some ⟨b, 0, none⟩) := by simpa using hv'
  refine bodyPost_ret (v := .agg cs.toArray) ?_ rfl ⟨_, rfl, h⟩
  simp [results, hr, hv'', asAddr, loadVar, h1, h2, hl]
/-- Such a struct and a plain value. -/
theorem retC2 {fn : Func} {R : Value → World → Prop} {t t' b : Nat} {cs : List Value} {T : TypeId} {v' : Value} (hr : fn.results = #[.cell t T, .tmp t']) (hB : Blk w b cs) (hT : AggOf P T cs.length) (hv : ev n f (.tmp t) = .pointer (some ⟨b, 0, none⟩)) (hw : ev n f (.tmp t') = v') (h : R (.tuple #[.agg cs.toArray, v']) w) : PostV P fn R .ret (act n f) w := by
  obtain ⟨h1, h2⟩ := hT w
  have hl := run_loadCells_list (P := P) w ⟨b, 0, none⟩ cs (fun j u hu => by rw [Addr.add_lit, Nat.zero_add]; exact hB.cell hu)
  have hv' : (act n f).tmps.getD t undef = .pointer (some ⟨b, 0, none⟩) := by rw [act_getD]; exact hv
  have hv'' : (act n f).tmps[t]?.getD undef = .pointer (some ⟨b, 0, none⟩) := by simpa using hv'
  have hw' : (act n f).tmps.getD t' undef = v' := by rw [act_getD]; exact hw
  have hw'' : (act n f).tmps[t']?.getD undef = v' := by simpa using hw'
  refine bodyPost_ret (v := .tuple #[.agg cs.toArray, v']) ?_ rfl ⟨_, rfl, h⟩
  simp [results, hr, hv'', hw'', asAddr, loadVar, h1, h2, hl]
theorem retC3 {fn : Func} {R : Value → World → Prop} {t t' t'' b : Nat} {cs : List Value} {T : TypeId} {v' v'' : Value} (hr : fn.results = #[.cell t T, .tmp t', .tmp t'']) (hB : Blk w b cs) (hT : AggOf P T cs.length) (hv : ev n f (.tmp t) = .pointer (some ⟨b, 0, none⟩)) (hw : ev n f (.tmp t') = v') (hu : ev n f (.tmp t'') = v'') (h : R (.tuple #[.agg cs.toArray, v', v'']) w) : PostV P fn R .ret (act n f) w := by
  obtain ⟨h1, h2⟩ := hT w
  have hl := run_loadCells_list (P := P) w ⟨b, 0, none⟩ cs (fun j u hu => by rw [Addr.add_lit, Nat.zero_add]; exact hB.cell hu)
  have e1 : (act n f).tmps[t]?.getD undef = .pointer (some ⟨b, 0, none⟩) := by have := act_getD n f t; rw [show (bif t.blt n then f t else undef) = ev n f (.tmp t) from rfl, hv] at this; simpa using this
  have e2 : (act n f).tmps[t']?.getD undef = v' := by have := act_getD n f t'; rw [show (bif t'.blt n then f t' else undef) = ev n f (.tmp t') from rfl, hw] at this; simpa using this
  have e3 : (act n f).tmps[t'']?.getD undef = v'' := by have := act_getD n f t''; rw [show (bif t''.blt n then f t'' else undef) = ev n f (.tmp t'') from rfl, hu] at this; simpa using this
  refine bodyPost_ret (v := .tuple #[.agg cs.toArray, v', v'']) ?_ rfl ⟨_, rfl, h⟩
  simp [results, hr, e1, e2, e3, asAddr, loadVar, h1, h2, hl]

variable {α : Type} {E : TypeId} {enc : α → List Value} {sz lo hi : Nat} {ad : Option Addr} {c : Nat} {l : List α} {i : Int}

/-- A store of one cell (cell 'j' of element 'i') into a slice of the call's own. -/
theorem d_se [Inhabited α] {j : Nat} {e' : α} (hO : Ow E enc sz lo hi w ad c l) (hT : SzOf P T 1) (hx : ev n f x = .pointer (some ⟨blk ad, off ad + i.toNat * sz + j, none⟩)) (hy : ev n f y = v) (h1 : one v = true)
    (h0 : 0 ≤ i) (hi1' : i < l.length) (hj : j < sz) (he : enc e' = (enc (el l i)).set j v)
    (k : ∀ w', w'.heap.size = w.heap.size → Out (blk ad) (hi1 ad) w w' → Ow E enc sz lo hi w' ad c (l.set i.toNat e') → K undef w') : DoK P n f ⟨d, .store T x y, ty, pos, af, gd⟩ w K := by
  have hc : v.cells = #[v] := by cases v <;> simp_all [Value.cells, one]
  rcases hO.form with ⟨_, hl, _⟩ | ⟨g, rfl, hlo, hlt, hle⟩
  · omega
  · have hget := el_get h0 hi1'
    have hst := hO.owns.stored (i.toNat * sz + j) v
    have hcell : (w.cell? ⟨g, i.toNat * sz + j, none⟩).isSome = true := by
      have := hO.sl.cell _ _ hget j ((enc (el l i))[j]'(by rw [hO.len]; exact hj)) (by simp)
      simp [blk, off] at this
      rw [this]; rfl
    have hfr := hO.owns.frozenAt (i.toNat * sz + j)
    refine ⟨undef, w.setCell ⟨g, i.toNat * sz + j, none⟩ v, .inr ⟨rfl, ?_⟩, k _ (by simp) ?_ ?_⟩
    · obtain ⟨u, hu⟩ := Option.isSome_iff_exists.1 hcell
      simp only [blk, off, Nat.zero_add] at hx
      have hs := run_store P w ⟨g, i.toNat * sz + j, none⟩ v .plain (by rw [one_eq]; exact h1)
      rw [hu] at hs
      simp only [hfr, Bool.false_eq_true, if_false] at hs
      have hsz := hT w
      simp only [execOp, hx, hy, Instr.storeAt, Instr.sureAddr, storeVar, hc, Sem.run_bind, Sem.run_pure, hsz, Result.andThen, pure_bind]
      simp [storeCells, Addr.add_zero', hs, Result.andThen]
    · exact Out.grown hst.2 (fun k hk => by simp at hk; subst hk; exact ⟨Nat.le_refl _, by simp [hi1]⟩)
    · refine ⟨?_, hO.len, hO.top⟩
      have hfs := flat_set (enc := enc) hO.len (v := v) hget hj he
      have h2 := hst.1
      rw [hfs] at h2
      simpa using h2

/-- 'make([]T, m)'. -/
theorem d_make {m : Nat} {z : Value} {e0 : α} {bytes : Nat} (hT : SliceOf P T E sz) (hinfo : ∃ i, P.info? E = some i ∧ i.zero = some z ∧ i.size = sz ∧ i.bytes = bytes) (hlen : ∀ x, (enc x).length = sz) (hz : z.cells.toList = enc e0)
    (hx : ev n f x = .int .i64 (m : Int)) (hy : ev n f y = .int .i64 (m : Int)) (hb : bytes * m ≤ 281474976710656) (h63 : m ≤ maxLen) (hlo : lo ≤ w.heap.size)
    (k : ∀ b w', b = w.heap.size → w'.heap.size = b + 1 → Ext w w' → Ow E enc sz lo (b + 1) w' (some ⟨b, 0, none⟩) m (List.replicate m e0) → K (.slice (some ⟨b, 0, none⟩) m m) w') :
    DoK P n f ⟨d, .makeSlice T x y, ty, pos, af, gd⟩ w K := by
  obtain ⟨i, hi, hiz, his, hib⟩ := hinfo
  have hm63 : (m : Int) ≤ 9223372036854775807 := by simp only [maxLen] at h63; omega
  have hbb : (i.bytes : Int) * (m : Int) ≤ 281474976710656 := by
    rw [hib]
    have h : ((bytes * m : Nat) : Int) ≤ 281474976710656 := by omega
    rwa [Int.natCast_mul] at h
  have hr := run_make (P := P) w T E i z hT.und hi hiz .i64 .i64 (m : Int) (m : Int) (by omega) (Int.le_refl _) hbb hm63
  simp only [Int.toNat_natCast] at hr
  refine ⟨_, w.alloc (.cells (madeCells z.cells (m * i.size)) E), .inl (by simp only [execOp, hx, hy, Sem.run_bind, hr, Result.andThen, Sem.run_pure]), k w.heap.size _ rfl (by simp) (Out.alloc w _) ?_⟩
  have hzl : z.cells.size = sz := by rw [← Array.length_toList, hz, hlen]
  have hcells : (madeCells z.cells (m * i.size)).toList = (List.replicate m e0).flatMap enc := by
    rw [his]
    apply List.ext_getElem?
    intro q
    by_cases hq : q < m * sz
    · obtain ⟨h1, h2, h3⟩ := div_pos hq
      have hrep : (List.replicate m e0)[q / sz]? = some e0 := by simp [h1]
      have hf := flat_get hlen _ _ _ hrep _ h2
      rw [h3] at hf
      rw [hf]
      have hlt : q % z.cells.size < z.cells.size := by rw [hzl]; exact h2
      simp only [madeCells, Array.toList_map, Array.toList_range, List.getElem?_map, List.getElem?_range hq, Option.map_some]
      rw [← hz, ← hzl]
      simp [hlt]
    · rw [List.getElem?_eq_none (by simp [madeCells]; omega), List.getElem?_eq_none (by rw [flat_len hlen, List.length_replicate]; omega)]
  refine ⟨?_, hlen, by simp [hi1]⟩
  have h2 := World.ownsRow_lit (base := lo) (e := E) (size := sz) w (madeCells z.cells (m * i.size)) m hlo h63 (by rw [size_madeCells, his])
  rw [hcells] at h2
  simpa using h2

/-- 'append(s, xs..)' onto a slice of the call's own, out of a block that is known whole. -/
theorem d_app {b2 c2 m : Nat} {xs : List α} {z : Value} {bytes : Nat} {Ts : Array TypeId} (hO : Ow E enc sz lo hi w ad c l) (hT : SliceOf P T E sz) (hinfo : ∃ i, P.info? E = some i ∧ i.zero = some z ∧ i.size = sz ∧ i.bytes = bytes ∧ z.cells.size = sz) (hsz : 0 < sz)
    (hTs : Ts = #[T, T]) (hx : ev n f x = .slice ad l.length c) (hy : ev n f y = .slice (some ⟨b2, 0, none⟩) m c2) (hm : m = xs.length) (hB : Blk w b2 (xs.flatMap enc)) (h1 : ∀ x, ones (enc x) = true)
    (h63 : l.length + xs.length ≤ maxLen) (hbytes : (l.length + xs.length) * bytes ≤ 140737488355328) (hlo : lo ≤ w.heap.size) (hhi : hi ≤ w.heap.size)
    (k : ∀ ad' c' w', Out (blk ad) (hi1 ad) w w' → Ow E enc sz lo w'.heap.size w' ad' c' (l ++ xs) → K (.slice ad' (l ++ xs).length c') w') :
    DoK P n f ⟨d, .call ⟨.builtin .append, #[x, y], Ts⟩, ty, pos, af, gd⟩ w K := by
  obtain ⟨i, hi', hiz, his, hib, hzs⟩ := hinfo
  subst hTs
  subst hm
  have hnl : (xs.flatMap enc).length = xs.length * sz := flat_len hO.len xs
  obtain ⟨v', w', hr, hown, hgr, hnil⟩ := run_append_own (P := P) w lo T ty E i z sz bytes hT.und hi' hiz his hib hzs hsz (.slice ad l.length c) l.length (l.flatMap enc) hO.owns ⟨b2, 0, none⟩ xs.length c2 (xs.flatMap enc) hnl
    (fun j u hu => by rw [Addr.add_lit, Nat.zero_add]; exact hB.cell hu) (fun u hu => by
      obtain ⟨x0, _, hux⟩ := List.mem_flatMap.1 hu
      exact ones_all (h1 x0) u hux) h63 hbytes hlo
  have hO' : Out (blk ad) (hi1 ad) w w' := Out.grown hgr (fun k hk => by
    cases ad with
    | none => simp [Value.ownBlock] at hk
    | some a => simp [Value.ownBlock] at hk; subst hk; exact ⟨Nat.le_refl _, by simp [hi1]⟩)
  have hform : ∃ ad' c', v' = .slice ad' (l ++ xs).length c' := by
    rcases hown.2 with ⟨h, h0⟩ | ⟨g, cap, cur, h, _⟩
    · exact ⟨none, 0, by rw [h]; simp; omega⟩
    · exact ⟨some ⟨g, 0, none⟩, cap, by rw [h]; simp⟩
  obtain ⟨ad', c', rfl⟩ := hform
  have hO2 : Ow E enc sz lo w'.heap.size w' ad' c' (l ++ xs) := by
    refine ⟨by rw [List.flatMap_append]; rw [List.length_append] at hown ⊢; exact hown, hO.len, ?_⟩
    rcases hown.2 with ⟨h, h0⟩ | ⟨g, cap, cur, h, _, hg, _⟩
    · simp at h; rw [h.1]; exact Nat.zero_le _
    · simp at h
      rw [h.1]
      have := (Array.getElem?_eq_some_iff.1 hg).1
      simp [hi1]; omega
  refine ⟨_, w', .inl ?_, k ad' c' w' hO' hO2⟩
  simp only [execOp, resolve, invoke, builtin, Sem.run_bind, Sem.run_pure, Result.andThen_ok, List.map_toArray, List.map_cons, List.map_nil, hx, hy, hr]
end
end Go.Wk
