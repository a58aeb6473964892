/-
  The data of networks as plain lists, and how they lie in memory.
-/
import Derived.Test.YtclligkngjhihaaWkD
namespace Go.Wk
set_option linter.unusedVariables false
set_option linter.unusedSimpArgs false

structure Ev where
  kd : Int
  ln : Int
  rd : Int
  deriving Inhabited, DecidableEq

structure Ac where
  kd : Int
  fr : Int
  tt : Int
  mn : Int
  mx : Int
  wt : Int
  deriving Inhabited, DecidableEq

def encI (x : Int) : List Value := [.int .i64 x]
def encB (x : Bool) : List Value := [.bool x]
def encEv (e : Ev) : List Value := [.int .i64 e.kd, .int .i64 e.ln, .int .i64 e.rd]
def encAc (a : Ac) : List Value := [.int .i64 a.kd, .int .i64 a.fr, .int .i64 a.tt, .int .i64 a.mn, .int .i64 a.mx, .int .i64 a.wt]

structure Net where
  p : Int
  evs : List Ev
  acts : List Ac
  deriving Inhabited

structure NetA where
  ae : Option Addr
  ce : Nat
  aa : Option Addr
  ca : Nat

abbrev netCells (N : Net) (A : NetA) : List Value := [.int .i64 N.p, .slice A.ae N.evs.length A.ce, .slice A.aa N.acts.length A.ca]
abbrev netV (N : Net) (A : NetA) : Value := .agg (netCells N A).toArray

abbrev Ints (lo hi : Nat) (w : World) (ad : Option Addr) (l : List Int) : Prop := Sl encI 1 lo hi w ad l

structure NetIn (lo hi : Nat) (w : World) (N : Net) (A : NetA) : Prop where
  e : Sl encEv 3 lo hi w A.ae N.evs
  a : Sl encAc 6 lo hi w A.aa N.acts

section
variable {lo hi : Nat} {w w' : World} {N : Net} {A : NetA}
theorem NetIn.out {a b : Nat} (h : NetIn lo hi w N A) (ho : Out a b w w') (hs : hi ≤ a ∨ b ≤ lo ∨ b ≤ a) : NetIn lo hi w' N A := ⟨h.e.out ho hs, h.a.out ho hs⟩
theorem NetIn.ext (h : NetIn lo hi w N A) (ho : Ext w w') : NetIn lo hi w' N A := ⟨h.e.ext ho, h.a.ext ho⟩
theorem NetIn.full (h : NetIn lo hi w N A) : NetIn 0 w.heap.size w N A := ⟨h.e.full (fun _ => by simp [encEv]), h.a.full (fun _ => by simp [encAc])⟩
theorem Ints.full {ad : Option Addr} {l : List Int} (h : Ints lo hi w ad l) : Ints 0 w.heap.size w ad l := Sl.full (fun _ => by simp [encI]) h
end

/-! ### What 'network' decides -/

def hdrOk (N : Net) : Bool := decide (2 ≤ N.p ∧ N.p ≤ 7200 ∧ (N.evs.length : Int) ≤ 48 ∧ (N.acts.length : Int) ≤ 512)
def acOk1 (N : Net) (a : Ac) : Bool := decide (0 ≤ a.fr ∧ a.fr < N.evs.length ∧ 0 ≤ a.tt ∧ a.tt < N.evs.length ∧ a.fr ≠ a.tt)
def acOk2 (N : Net) (a : Ac) : Bool := decide (-65536 ≤ a.mn ∧ a.mn ≤ a.mx ∧ a.mx ≤ 65536 ∧ a.mx - a.mn < N.p)
def acOk3 (a : Ac) : Bool := decide (0 ≤ a.wt ∧ a.wt ≤ 1048576)
def acOk (N : Net) (a : Ac) : Bool := acOk1 N a && acOk2 N a && acOk3 a
def netOk (N : Net) : Bool := hdrOk N && N.acts.all (acOk N)
def goodT (N : Net) (t : List Int) : Bool := netOk N && decide (t.length = N.evs.length) && t.all fun x => decide (0 ≤ x ∧ x < N.p)
def durA (N : Net) (t : List Int) (a : Ac) : Int := a.mn + (el t a.tt - el t a.fr - a.mn) % N.p
/-- The number of the first activity that is not satisfied. -/
def firstBad (N : Net) (t : List Int) : Option Nat := N.acts.findIdx? fun a => decide (a.mx < durA N t a)
def firstI (N : Net) (t : List Int) : Int := if goodT N t = true then (match firstBad N t with | some k => (k : Int) | none => 0) else 0
def firstB (N : Net) (t : List Int) : Bool := goodT N t && (firstBad N t).isSome
def feas (N : Net) (t : List Int) : Bool := goodT N t && N.acts.all fun a => decide (durA N t a ≤ a.mx)

structure AcOk (N : Net) (a : Ac) : Prop where
  f0 : 0 ≤ a.fr
  f1 : a.fr < N.evs.length
  t0 : 0 ≤ a.tt
  t1 : a.tt < N.evs.length
  ne : a.fr ≠ a.tt
  m0 : -65536 ≤ a.mn
  m1 : a.mn ≤ a.mx
  m2 : a.mx ≤ 65536
  m3 : a.mx - a.mn < N.p
  w0 : 0 ≤ a.wt
  w1 : a.wt ≤ 1048576

theorem acOk_iff {N : Net} {a : Ac} : acOk N a = true ↔ AcOk N a := by
  simp only [acOk, acOk1, acOk2, acOk3, Bool.and_eq_true, decide_eq_true_eq]
  constructor
  · rintro ⟨⟨⟨h1, h2, h3, h4, h5⟩, h6, h7, h8, h9⟩, h10, h11⟩; exact ⟨h1, h2, h3, h4, h5, h6, h7, h8, h9, h10, h11⟩
  · rintro ⟨h1, h2, h3, h4, h5, h6, h7, h8, h9, h10, h11⟩; exact ⟨⟨⟨h1, h2, h3, h4, h5⟩, h6, h7, h8, h9⟩, h10, h11⟩

structure NetOk (N : Net) : Prop where
  p2 : 2 ≤ N.p
  p7 : N.p ≤ 7200
  ev : (N.evs.length : Int) ≤ 48
  ac : (N.acts.length : Int) ≤ 512
  acs : ∀ a ∈ N.acts, AcOk N a

theorem netOk_iff {N : Net} : netOk N = true ↔ NetOk N := by
  simp only [netOk, hdrOk, Bool.and_eq_true, decide_eq_true_eq, List.all_eq_true]
  constructor
  · rintro ⟨⟨h1, h2, h3, h4⟩, h5⟩; exact ⟨h1, h2, h3, h4, fun a ha => acOk_iff.1 (h5 a ha)⟩
  · rintro ⟨h1, h2, h3, h4, h5⟩; exact ⟨⟨h1, h2, h3, h4⟩, fun a ha => acOk_iff.2 (h5 a ha)⟩

structure GoodT (N : Net) (t : List Int) : Prop where
  ok : NetOk N
  len : t.length = N.evs.length
  rng : ∀ x ∈ t, 0 ≤ x ∧ x < N.p

theorem goodT_iff {N : Net} {t : List Int} : goodT N t = true ↔ GoodT N t := by
  simp only [goodT, Bool.and_eq_true, decide_eq_true_eq, List.all_eq_true, netOk_iff]
  constructor
  · rintro ⟨⟨h1, h2⟩, h3⟩; exact ⟨h1, h2, h3⟩
  · rintro ⟨h1, h2, h3⟩; exact ⟨⟨h1, h2⟩, h3⟩

/-! ### Small laws -/

theorem vb {p q : Bool} (h : p = true ↔ q = true) : Value.bool p = Value.bool q := by rw [Bool.eq_iff_iff.2 h]
theorem vi {k : IntKind} {a b : Int} (h : a = b) : Value.int k a = Value.int k b := by rw [h]

theorem vib {k : IntKind} {a b : Int} {p q : Bool} (h1 : a = b) (h2 : p = q) : Value.tuple #[.int k a, .bool p] = .tuple #[.int k b, .bool q] := by rw [h1, h2]
theorem vii {k k' : IntKind} {a b a' b' : Int} (h1 : a = b) (h2 : a' = b') : Value.tuple #[.int k a, .int k' a'] = .tuple #[.int k b, .int k' b'] := by rw [h1, h2]
theorem vibi {k k' : IntKind} {a b a' b' : Int} {p q : Bool} (h1 : a = b) (h2 : p = q) (h3 : a' = b') : Value.tuple #[.int k a, .bool p, .int k' a'] = .tuple #[.int k b, .bool q, .int k' b'] := by rw [h1, h2, h3]

theorem feas_eq (N : Net) (t : List Int) : feas N t = (!firstB N t && goodT N t) := by
  unfold feas firstB
  cases goodT N t with
  | false => simp
  | true =>
    simp only [Bool.true_and, Bool.and_true]
    unfold firstBad
    cases h : N.acts.findIdx? (fun a => decide (a.mx < durA N t a)) with
    | none =>
      simp only [Option.isSome_none, Bool.not_false, List.all_eq_true, decide_eq_true_eq]
      intro a ha
      have := List.findIdx?_eq_none_iff.1 h a ha
      simp only [decide_eq_false_iff_not] at this
      omega
    | some k =>
      simp only [Option.isSome_some, Bool.not_true]
      obtain ⟨hk, hq, _⟩ := List.findIdx?_eq_some_iff_getElem.1 h
      rw [← Bool.not_eq_true, List.all_eq_true]
      intro hall
      have := hall _ (List.getElem_mem hk)
      simp only [decide_eq_true_eq] at this hq
      omega

theorem el_mem {α : Type} [Inhabited α] {l : List α} {i : Int} (h0 : 0 ≤ i) (h1 : i < l.length) : el l i ∈ l := List.mem_of_getElem? (el_get h0 h1)
theorem el_nat {α : Type} [Inhabited α] (l : List α) (k : Nat) : el l (k : Int) = l.getD k default := by simp [el]

theorem take_all_succ {α : Type} [Inhabited α] {l : List α} {q : α → Bool} {k : Nat} (hk : (k : Int) < l.length) (h : (l.take k).all q = true) (hq : q (el l k) = true) : (l.take (k + 1)).all q = true := by
  have hk' : k < l.length := by omega
  rw [List.take_succ_eq_append_getElem hk', List.all_append, h]
  have : el l (k : Int) = l[k] := by simp [el, hk']
  simp [← this, hq]
theorem all_take_len {α : Type} {l : List α} {q : α → Bool} {k : Nat} (hk : ¬ (k : Int) < l.length) (h : (l.take k).all q = true) : l.all q = true := by
  rw [List.take_of_length_le (by omega)] at h; exact h
theorem all_false {α : Type} [Inhabited α] {l : List α} {q : α → Bool} {k : Nat} (hk : (k : Int) < l.length) (hq : q (el l k) = false) : l.all q = false := by
  rw [← Bool.not_eq_true, List.all_eq_true]
  intro h
  rw [h _ (el_mem (by omega) hk)] at hq; cases hq

theorem find_take_succ {α : Type} [Inhabited α] {l : List α} {q : α → Bool} {k : Nat} (hk : (k : Int) < l.length) (h : (l.take k).findIdx? q = none) (hq : q (el l k) = false) : (l.take (k + 1)).findIdx? q = none := by
  have hk' : k < l.length := by omega
  rw [List.findIdx?_eq_none_iff] at h ⊢
  intro x hx
  rw [List.take_succ_eq_append_getElem hk'] at hx
  have : el l (k : Int) = l[k] := by simp [el, hk']
  rcases List.mem_append.1 hx with h1 | h1
  · exact h x h1
  · simp at h1; rw [h1, ← this]; exact hq
theorem find_here {α : Type} [Inhabited α] {l : List α} {q : α → Bool} {k : Nat} (hk : (k : Int) < l.length) (h : (l.take k).findIdx? q = none) (hq : q (el l k) = true) : l.findIdx? q = some k := by
  have hk' : k < l.length := by omega
  have he : el l (k : Int) = l[k] := by simp [el, hk']
  rw [List.findIdx?_eq_some_iff_getElem]
  refine ⟨hk', by rw [← he]; exact hq, fun j hj => ?_⟩
  rw [List.findIdx?_eq_none_iff] at h
  have hm : l[j] ∈ l.take k := by
    rw [List.mem_take_iff_getElem]
    exact ⟨j, by omega, rfl⟩
  have := h _ hm
  simp [this]
theorem find_end {α : Type} {l : List α} {q : α → Bool} {k : Nat} (hk : ¬ (k : Int) < l.length) (h : (l.take k).findIdx? q = none) : l.findIdx? q = none := by
  rw [List.take_of_length_le (by omega)] at h; exact h

/-! ### Rows that come in -/

theorem cell_spot {w : World} {x : Addr} {v : Value} (h : w.cell? x = some v) : ∃ b o, x = ⟨b, o, none⟩ := by
  obtain ⟨b, o, s⟩ := x
  cases s with
  | none => exact ⟨b, o, rfl⟩
  | some k => simp [World.cell?] at h; split at h <;> cases h

theorem ints_of {w : World} {a : Option Addr} {len cap : Nat} {zs : List Int}
    (h : (a = none ∧ len = 0 ∧ cap = 0 ∧ zs = []) ∨ ∃ x, a = some x ∧ len ≤ cap ∧ cap ≤ maxLen ∧ zs.length = cap ∧ (∀ i, i < zs.length → w.cell? (x.add i) = some (.int .i64 (zs.getD i 0))) ∧ ∀ n ∈ zs, (Lit.int .i64 n).wf = true) :
    ∃ l : List Int, len = l.length ∧ (l.length : Int) ≤ 9223372036854775807 ∧ Ints 0 w.heap.size w a l ∧ ∀ n ∈ l, (Lit.int .i64 n).wf = true := by
  rcases h with ⟨rfl, rfl, rfl, rfl⟩ | ⟨x, rfl, h1, h2, h3, h4, h5⟩
  · exact ⟨[], rfl, by simp, ⟨fun h => absurd rfl h, fun i x hx => by simp at hx⟩, fun n hn => by cases hn⟩
  · have hl : (zs.take len).length = len := by simp; omega
    unfold maxLen at h2
    have hg : ∀ i z, (zs.take len)[i]? = some z → w.cell? (x.add i) = some (.int .i64 z) := fun i z hz => by
      have hi : i < len := by
        rcases Nat.lt_or_ge i (zs.take len).length with h | h
        · omega
        · rw [List.getElem?_eq_none h] at hz; cases hz
      have hc := h4 i (by omega)
      rw [List.getElem?_take_of_lt hi] at hz
      rw [List.getD_eq_getElem?_getD, hz] at hc
      exact hc
    have hx : zs.take len ≠ [] → ∃ b o, x = ⟨b, o, none⟩ := fun hne => by
      cases hz : zs.take len with
      | nil => exact absurd hz hne
      | cons z r =>
        have := hg 0 z (by rw [hz]; rfl)
        rw [show x.add 0 = x from by simp [Addr.add]] at this
        exact cell_spot this
    refine ⟨zs.take len, hl.symm, by omega, ⟨fun hne => ?_, fun i z hz j y hy => ?_⟩, fun n hn => h5 n (List.mem_of_mem_take hn)⟩
    · obtain ⟨b, o, rfl⟩ := hx hne
      cases hz : zs.take len with
      | nil => exact absurd hz hne
      | cons z r =>
        have := hg 0 z (by rw [hz]; rfl)
        rw [Addr.add_lit] at this
        exact ⟨⟨_, _, rfl⟩, Nat.zero_le _, World.block_lt_of_cell? _ _ this⟩
    · have := hg i z hz
      obtain ⟨b, o, rfl⟩ := hx (by intro he; rw [he] at hz; simp at hz)
      rw [Addr.add_lit] at this
      cases j with
      | zero => simp [encI] at hy; subst hy; simpa [blk, off] using this
      | succ j => simp [encI] at hy

/-- A block that is known whole, read as a slice. -/
theorem Blk.sl {α : Type} {enc : α → List Value} {sz lo hi : Nat} {w : World} {b : Nat} {l : List α} (h : Blk w b (l.flatMap enc)) (hl : ∀ x, (enc x).length = sz) (h1 : lo ≤ b) (h2 : b < hi) : Sl enc sz lo hi w (some ⟨b, 0, none⟩) l := by
  refine ⟨fun _ => ⟨⟨b, 0, rfl⟩, h1, h2⟩, fun i x hx j y hy => ?_⟩
  have hj : j < sz := by
    rw [← hl x]
    rcases Nat.lt_or_ge j (enc x).length with h' | h'
    · exact h'
    · rw [List.getElem?_eq_none h'] at hy; cases hy
  have := h.cell (i := i * sz + j) (v := y) (by rw [flat_get hl l i x hx j hj]; exact hy)
  simpa [blk, off] using this
end Go.Wk
