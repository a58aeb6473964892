/-
  The interlocking of layer 32 as plain data: what New, Flanks, Grant, Free, Report and Close decide.
-/
import Derived.Test.YtciljdhihnnfiaaKeep
namespace Go.Wk
set_option linter.unusedVariables false
set_option linter.unusedSimpArgs false

structure Rs where
  ho : Int
  po : Int
  re : Int
  cl : Bool
  deriving Inhabited, DecidableEq
structure Fk where
  rs : Int
  pt : Int
  po : Int
  deriving Inhabited, DecidableEq
structure Lk where
  rs : Int
  po : Int
  deriving Inhabited, DecidableEq

def encRs (r : Rs) : List Value := [.int .i64 r.ho, .int .i64 r.po, .int .i64 r.re, .bool r.cl]
def encFk (f : Fk) : List Value := [.int .i64 f.rs, .int .i64 f.pt, .int .i64 f.po]
def encLk (k : Lk) : List Value := [.int .i64 k.rs, .int .i64 k.po]

structure IS where
  rs : List Rs
  fl : List Fk

/-! ### A list as a function -/

def upd {α : Type} (f : Int → α) (i : Int) (v : α) : Int → α := fun j => if j = i then v else f j
theorem upd_same {α : Type} (f : Int → α) (i : Int) (v : α) : upd f i v i = v := by simp [upd]
theorem upd_ne {α : Type} (f : Int → α) {i j : Int} (v : α) (h : j ≠ i) : upd f i v j = f j := by simp [upd, h]

/-- The list's elements are the function's values. -/
def Rep {α : Type} [Inhabited α] (l : List α) (f : Int → α) : Prop := ∀ i : Int, 0 ≤ i → i < l.length → el l i = f i

theorem el_set_same {α : Type} [Inhabited α] {l : List α} {i : Int} {v : α} (h0 : 0 ≤ i) (h1 : i < l.length) : el (l.set i.toNat v) i = v := by
  have h : i.toNat < l.length := by omega
  simp [el, List.getD_eq_getElem?_getD, h]
theorem el_set_ne {α : Type} [Inhabited α] {l : List α} {i j : Int} {v : α} (h0 : 0 ≤ i) (hj : 0 ≤ j) (h : j ≠ i) : el (l.set i.toNat v) j = el l j := by
  have h : i.toNat ≠ j.toNat := by omega
  simp [el, List.getD_eq_getElem?_getD, List.getElem?_set_ne h]
theorem el_rep {α : Type} [Inhabited α] {n : Nat} {v : α} {i : Int} (h0 : 0 ≤ i) (h1 : i < n) : el (List.replicate n v) i = v := by
  have h : i.toNat < n := by omega
  simp [el, List.getD_eq_getElem?_getD, h]
theorem el_map {α β : Type} [Inhabited α] [Inhabited β] {l : List α} {g : α → β} {i : Int} (h0 : 0 ≤ i) (h1 : i < l.length) : el (l.map g) i = g (el l i) := by
  have h : i.toNat < l.length := by omega
  simp [el, List.getD_eq_getElem?_getD, h]
theorem map_set {α β : Type} {l : List α} {g : α → β} {n : Nat} {v : α} : (l.set n v).map g = (l.map g).set n (g v) := by simp [List.map_set]
/-- A list whose one place turns, seen through a map that does not see it. -/
theorem map_set_id {α β : Type} [Inhabited α] {l : List α} {g : α → β} {i : Int} {v : α} (h0 : 0 ≤ i) (h1 : i < l.length) (h : g v = g (el l i)) : (l.set i.toNat v).map g = l.map g := by
  have hi : i.toNat < l.length := by omega
  have he : el l i = l[i.toNat] := by simp [el, List.getD_eq_getElem?_getD, hi]
  rw [List.map_set, h, he]
  apply List.ext_getElem?
  intro j
  by_cases hj : i.toNat = j
  · subst hj; simp [hi]
  · simp [List.getElem?_set_ne hj]
theorem ext_el {α : Type} [Inhabited α] {a b : List α} (hl : a.length = b.length) (h : ∀ i : Int, 0 ≤ i → i < a.length → el a i = el b i) : a = b := by
  apply List.ext_getElem hl
  intro i h1 h2
  have := h i (by omega) (by omega)
  simpa [el, h1, h2] using this

theorem Rep.set {α : Type} [Inhabited α] {l : List α} {f : Int → α} {i : Int} {v : α} (h : Rep l f) (h0 : 0 ≤ i) (h1 : i < l.length) : Rep (l.set i.toNat v) (upd f i v) := by
  intro j hj0 hj1
  rw [List.length_set] at hj1
  by_cases e : j = i
  · subst e; rw [el_set_same h0 h1, upd_same]
  · rw [el_set_ne h0 hj0 e, upd_ne _ _ e]; exact h j hj0 hj1
theorem Rep.repl {α : Type} [Inhabited α] (n : Nat) (v : α) : Rep (List.replicate n v) (fun _ => v) := by
  intro i h0 h1
  rw [List.length_replicate] at h1
  exact el_rep h0 h1

theorem take_succ_el {α : Type} [Inhabited α] {l : List α} {k : Nat} (hk : (k : Int) < l.length) : l.take (k + 1) = l.take k ++ [el l (k : Int)] := by
  have hk' : k < l.length := by omega
  have : el l (k : Int) = l[k] := by simp [el, hk']
  rw [List.take_succ_eq_append_getElem hk', this]
theorem drop_el {α : Type} [Inhabited α] {l : List α} {k : Nat} (hk : (k : Int) < l.length) : l.drop k = el l (k : Int) :: l.drop (k + 1) := by
  have hk' : k < l.length := by omega
  have : el l (k : Int) = l[k] := by simp [el, hk']
  rw [List.drop_eq_getElem_cons hk', this]
theorem drop_end {α : Type} {l : List α} {k : Nat} (hk : ¬ (k : Int) < l.length) : l.drop k = [] := List.drop_eq_nil_of_le (by omega)
theorem take_end {α : Type} {l : List α} {k : Nat} (hk : ¬ (k : Int) < l.length) : l.take k = l := List.take_of_length_le (by omega)

/-! ### New -/

def fkBad (n : Int) (f : Fk) : Bool := decide (¬ (0 ≤ f.rs ∧ f.rs < n ∧ 0 ≤ f.pt ∧ f.pt < n ∧ 0 ≤ f.po ∧ f.po ≤ 1))
def sameFk (f g : Fk) : Bool := decide (g.rs = f.rs ∧ g.pt = f.pt)
/-- The error of flank 'f' behind the flanks 'pre'. -/
def fkE (n : Int) (pre : List Fk) (f : Fk) : Int := if fkBad n f = true then 4 else if f.rs = f.pt then 1 else if pre.any (sameFk f) = true then 5 else 0
def newGo (n : Int) : List Fk → List Fk → Int
  | _, [] => 0
  | pre, f :: r => if fkE n pre f = 0 then newGo n (pre ++ [f]) r else fkE n pre f
def newE (n : Int) (fl : List Fk) : Int := if 1 ≤ n ∧ n ≤ 144 then (if 144 < (fl.length : Int) then 7 else newGo n [] fl) else 4

structure FlOk (n : Int) (fl : List Fk) : Prop where
  len : (fl.length : Int) ≤ 144
  ok : ∀ f ∈ fl, 0 ≤ f.rs ∧ f.rs < n ∧ 0 ≤ f.pt ∧ f.pt < n ∧ 0 ≤ f.po ∧ f.po ≤ 1

theorem newGo_ok {n : Int} : ∀ (r pre : List Fk), newGo n pre r = 0 → ∀ f ∈ r, fkBad n f = false ∧ f.rs ≠ f.pt
  | [], _, _, f, hf => by cases hf
  | g :: r, pre, h, f, hf => by
    unfold newGo at h
    by_cases he : fkE n pre g = 0
    · rw [if_pos he] at h
      rcases List.mem_cons.1 hf with rfl | hf
      · unfold fkE at he
        constructor
        · cases hb : fkBad n f with
          | false => rfl
          | true => rw [hb, if_pos rfl] at he; cases he
        · intro e
          split at he
          · cases he
          · first | cases he | (rw [if_pos e] at he; cases he)
      · exact newGo_ok r _ h f hf
    · rw [if_neg he] at h; exact absurd h he

theorem newE_ok {n : Int} {fl : List Fk} (h : newE n fl = 0) : 1 ≤ n ∧ n ≤ 144 ∧ FlOk n fl := by
  unfold newE at h
  split at h
  · split at h
    · cases h
    · refine ⟨by omega, by omega, by omega, fun f hf => ?_⟩
      have := (newGo_ok _ _ h f hf).1
      simp only [fkBad, decide_eq_false_iff_not, Decidable.not_not] at this
      exact this
  · cases h

/-! ### Flanks, locks -/

def held (S : IS) (f : Fk) : Bool := decide ((el S.rs f.rs).ho ≠ -1)
def flk (S : IS) (r : Int) : Int := (S.fl.countP fun f => decide (f.pt = r) && held S f : Nat)

def mvs (S : IS) (k : Lk) : Bool := decide (0 ≤ k.po ∧ k.po ≠ (el S.rs k.rs).po)
def lkE (S : IS) (t : Int) (k : Lk) : Int :=
  if (el S.rs k.rs).ho = t then (if mvs S k = true then 13 else 0)
  else if (el S.rs k.rs).ho ≠ -1 then 17
  else if (el S.rs k.rs).cl = true then 18
  else if (el S.rs k.rs).re ≠ 0 then 16
  else if mvs S k = true ∧ 0 < flk S k.rs then 13 else 0

def lkBad (n : Int) (k : Lk) : Bool := decide (¬ (0 ≤ k.rs ∧ k.rs < n ∧ -1 ≤ k.po ∧ k.po ≤ 1))
def repGo : List Lk → (Int → Bool) → Bool
  | [], _ => false
  | k :: r, B => B k.rs || repGo r (upd B k.rs true)
/-- The first error of a lock. -/
def lksE (S : IS) (t : Int) : List Lk → Int
  | [] => 0
  | k :: r => if lkE S t k = 0 then lksE S t r else lkE S t k

def wanUp (S : IS) (W : Int → Int) (k : Lk) : Int → Int := upd W k.rs (if k.po < 0 then (el S.rs k.rs).po else k.po)
def wan (S : IS) (l : List Lk) : Int → Int := l.foldl (wanUp S) (fun _ => -1)
def nwUp (S : IS) (B : Int → Bool) (k : Lk) : Int → Bool := upd B k.rs (decide ((el S.rs k.rs).ho = -1))
def nw (S : IS) (l : List Lk) : Int → Bool := l.foldl (nwUp S) (fun _ => false)

def clash (W : Int → Int) (f : Fk) : Bool := decide (0 ≤ W f.pt ∧ W f.pt ≠ f.po)
def jam (S : IS) (f : Fk) : Bool := decide ((el S.rs f.pt).po ≠ f.po ∧ ((el S.rs f.pt).ho ≠ -1 ∨ 0 < flk S f.pt))
def fkGo (S : IS) (B : Int → Bool) : List Fk → (Int → Int) → Int
  | [], _ => 0
  | f :: r, W => if B f.rs = false then fkGo S B r W else if clash W f = true then 13 else if jam S f = true then 17 else fkGo S B r (upd W f.pt f.po)
def movesOf (B : Int → Bool) (fl : List Fk) : List Fk := fl.filter fun f => B f.rs
def wanF (W : Int → Int) (m : List Fk) : Int → Int := m.foldl (fun W f => upd W f.pt f.po) W

def grantE (S : IS) (t : Int) (l : List Lk) : Int :=
  if ¬ (0 ≤ t ∧ t < 10) then 4
  else if l.any (lkBad S.rs.length) = true then 4
  else if l = [] ∨ repGo l (fun _ => false) = true then 1
  else if lksE S t l ≠ 0 then lksE S t l
  else fkGo S (nw S l) S.fl (wan S l)

/-- What a resource is after a grant. -/
def grRs (S : IS) (t : Int) (l : List Lk) (W : Int → Int) (i : Int) : Rs :=
  { el S.rs i with ho := if l.any (fun k => decide (k.rs = i)) = true then t else (el S.rs i).ho, po := if 0 ≤ W i then W i else (el S.rs i).po }
def grW (S : IS) (l : List Lk) : Int → Int := wanF (wan S l) (movesOf (nw S l) S.fl)
def grantR (S : IS) (t : Int) (l : List Lk) : List Rs := (List.range S.rs.length).map fun (i : Nat) => grRs S t l (grW S l) (i : Int)
def grantS (S : IS) (t : Int) (l : List Lk) : IS := if grantE S t l = 0 then ⟨grantR S t l, S.fl⟩ else S

theorem grantR_len (S : IS) (t : Int) (l : List Lk) : (grantR S t l).length = S.rs.length := by simp [grantR]
theorem el_range {α : Type} [Inhabited α] {n : Nat} {g : Nat → α} {i : Int} (h0 : 0 ≤ i) (h1 : i < n) : el ((List.range n).map g) i = g i.toNat := by
  have h : i.toNat < n := by omega
  simp [el, List.getD_eq_getElem?_getD, h]
theorem grantR_el {S : IS} {t : Int} {l : List Lk} {i : Int} (h0 : 0 ≤ i) (h1 : i < S.rs.length) : el (grantR S t l) i = grRs S t l (grW S l) i := by
  rw [grantR, el_range h0 h1, Int.toNat_of_nonneg h0]

structure IsOk (S : IS) : Prop where
  n1 : 1 ≤ S.rs.length
  n2 : S.rs.length ≤ 144
  fl : FlOk S.rs.length S.fl
  ho : ∀ r ∈ S.rs, -1 ≤ r.ho ∧ r.ho < 10
  po : ∀ r ∈ S.rs, 0 ≤ r.po ∧ r.po ≤ 1

/-! ### The other operations -/
def isR (S : IS) (r : Int) : Bool := decide (0 ≤ r ∧ r < S.rs.length)
def okT (t : Int) : Bool := decide (0 ≤ t ∧ t < 10)
def repB (S : IS) (r v : Int) : Bool := isR S r && decide (0 ≤ v ∧ v ≤ 2)
def repS (S : IS) (r v : Int) : IS := if repB S r v = true then ⟨S.rs.set r.toNat { el S.rs r with re := v }, S.fl⟩ else S
def cloS (S : IS) (r : Int) (c : Bool) : IS := if isR S r = true then ⟨S.rs.set r.toNat { el S.rs r with cl := c }, S.fl⟩ else S
def freeE (S : IS) (t r : Int) : Int := if okT t = true ∧ isR S r = true then (if (el S.rs r).ho ≠ t then 17 else if (el S.rs r).re ≠ 0 then 16 else 0) else 4
def freeS (S : IS) (t r : Int) : IS := if freeE S t r = 0 then ⟨S.rs.set r.toNat { el S.rs r with ho := -1 }, S.fl⟩ else S
def holder (S : IS) (r : Int) : Int := if isR S r = true then (el S.rs r).ho else -1
def position (S : IS) (r : Int) : Int := if isR S r = true then (el S.rs r).po else -1
def heldBy (S : IS) (t : Int) (k : Nat) : List Int := ((List.range k).filter fun (i : Nat) => decide (0 ≤ t ∧ t < 10 ∧ (el S.rs (i : Int)).ho = t)).map fun (i : Nat) => (i : Int)
def initS (n : Nat) (fl : List Fk) : IS := ⟨List.replicate n ⟨-1, 0, 0, false⟩, fl⟩

theorem initS_ok {n : Int} {fl : List Fk} (h : newE n fl = 0) : IsOk (initS n.toNat fl) := by
  obtain ⟨h1, h2, h3⟩ := newE_ok h
  have hl : ((initS n.toNat fl).rs.length : Int) = n := by simp [initS]; omega
  refine ⟨by omega, by omega, by rw [hl]; exact h3, fun r hr => ?_, fun r hr => ?_⟩
  · have := List.eq_of_mem_replicate hr; subst this; simp
  · have := List.eq_of_mem_replicate hr; subst this; simp

theorem mem_set {α : Type} {l : List α} {n : Nat} {v x : α} (h : x ∈ l.set n v) : x ∈ l ∨ x = v := by
  rcases List.mem_or_eq_of_mem_set h with h | h
  · exact .inl h
  · exact .inr h
theorem el_mem' {α : Type} [Inhabited α] {l : List α} {i : Int} (h0 : 0 ≤ i) (h1 : i < l.length) : el l i ∈ l := el_mem h0 h1

theorem set_ok {S : IS} (h : IsOk S) {i : Int} {v : Rs} (h1 : -1 ≤ v.ho ∧ v.ho < 10) (h2 : 0 ≤ v.po ∧ v.po ≤ 1) : IsOk ⟨S.rs.set i.toNat v, S.fl⟩ := by
  refine ⟨by simpa using h.n1, by simpa using h.n2, by simpa using h.fl, fun r hr => ?_, fun r hr => ?_⟩
  · rcases mem_set hr with hr | rfl
    · exact h.ho r hr
    · exact h1
  · rcases mem_set hr with hr | rfl
    · exact h.po r hr
    · exact h2
theorem isR_iff {S : IS} {r : Int} : isR S r = true ↔ 0 ≤ r ∧ r < S.rs.length := by simp [isR]
theorem repS_ok {S : IS} (h : IsOk S) (r v : Int) : IsOk (repS S r v) := by
  unfold repS
  split
  · rename_i hb
    have hr : isR S r = true := by simp only [repB, Bool.and_eq_true] at hb; exact hb.1
    have hm := el_mem (l := S.rs) (isR_iff.1 hr).1 (isR_iff.1 hr).2
    exact set_ok h (h.ho (el S.rs r) hm) (h.po (el S.rs r) hm)
  · exact h
theorem cloS_ok {S : IS} (h : IsOk S) (r : Int) (c : Bool) : IsOk (cloS S r c) := by
  unfold cloS
  split
  · rename_i hr
    have hm := el_mem (l := S.rs) (isR_iff.1 hr).1 (isR_iff.1 hr).2
    exact set_ok h (h.ho (el S.rs r) hm) (h.po (el S.rs r) hm)
  · exact h
theorem freeS_ok {S : IS} (h : IsOk S) (t r : Int) : IsOk (freeS S t r) := by
  unfold freeS
  split
  · rename_i hb
    have hr : isR S r = true := by
      unfold freeE at hb
      split at hb
      · rename_i hc; exact hc.2
      · cases hb
    have hm := el_mem (l := S.rs) (isR_iff.1 hr).1 (isR_iff.1 hr).2
    exact set_ok h (by simp) (h.po (el S.rs r) hm)
  · exact h

/-! ### Grants: facts -/

theorem wanF_cases (m : List Fk) : ∀ (W : Int → Int) (i : Int), wanF W m i = W i ∨ ∃ f ∈ m, f.pt = i ∧ wanF W m i = f.po := by
  induction m with
  | nil => intro W i; exact .inl rfl
  | cons f m ih =>
    intro W i
    rcases ih (upd W f.pt f.po) i with h | ⟨g, hg, h1, h2⟩
    · by_cases e : i = f.pt
      · subst e
        refine .inr ⟨f, List.mem_cons_self, rfl, ?_⟩
        show wanF (upd W f.pt f.po) m f.pt = f.po
        rw [h, upd_same]
      · refine .inl ?_
        show wanF (upd W f.pt f.po) m i = W i
        rw [h, upd_ne _ _ e]
    · exact .inr ⟨g, List.mem_cons_of_mem _ hg, h1, h2⟩

theorem wan_cases (S : IS) (l : List Lk) : ∀ (W : Int → Int) (i : Int), (l.foldl (wanUp S) W) i = W i ∨ ∃ k ∈ l, k.rs = i ∧ (l.foldl (wanUp S) W) i = (if k.po < 0 then (el S.rs k.rs).po else k.po) := by
  induction l with
  | nil => intro W i; exact .inl rfl
  | cons k l ih =>
    intro W i
    rcases ih (wanUp S W k) i with h | ⟨g, hg, h1, h2⟩
    · by_cases e : i = k.rs
      · subst e
        refine .inr ⟨k, List.mem_cons_self, rfl, ?_⟩
        show (l.foldl (wanUp S) (wanUp S W k)) k.rs = _
        rw [h, wanUp, upd_same]
      · refine .inl ?_
        show (l.foldl (wanUp S) (wanUp S W k)) i = W i
        rw [h, wanUp, upd_ne _ _ e]
    · exact .inr ⟨g, List.mem_cons_of_mem _ hg, h1, h2⟩

theorem grantE_zero {S : IS} {t : Int} {l : List Lk} (h : grantE S t l = 0) :
    (0 ≤ t ∧ t < 10) ∧ (∀ k ∈ l, 0 ≤ k.rs ∧ k.rs < S.rs.length ∧ -1 ≤ k.po ∧ k.po ≤ 1) ∧ l ≠ [] ∧ repGo l (fun _ => false) = false ∧ lksE S t l = 0 ∧ fkGo S (nw S l) S.fl (wan S l) = 0 := by
  unfold grantE at h
  split at h
  · cases h
  · rename_i ht
    split at h
    · cases h
    · rename_i hb
      split at h
      · cases h
      · rename_i hr
        split at h
        · rename_i he; exact absurd h he
        · rename_i he
          refine ⟨Decidable.not_not.1 ht, fun k hk => ?_, fun e => hr (.inl e), ?_, Decidable.not_not.1 he, h⟩
          · have h1 : lkBad S.rs.length k = false := by
              cases hc : lkBad S.rs.length k with
              | false => rfl
              | true => exact absurd (List.any_eq_true.2 ⟨k, hk, hc⟩) hb
            simpa [lkBad] using h1
          · cases hc : repGo l (fun _ => false) with
            | false => rfl
            | true => exact absurd (.inr hc) hr

theorem wan_rng {S : IS} (h : IsOk S) {l : List Lk} (hl : ∀ k ∈ l, 0 ≤ k.rs ∧ k.rs < S.rs.length ∧ -1 ≤ k.po ∧ k.po ≤ 1) (i : Int) : -1 ≤ wan S l i ∧ wan S l i ≤ 1 := by
  rcases wan_cases S l (fun _ => -1) i with e | ⟨k, hk, _, e⟩
  · unfold wan; rw [e]; decide
  · unfold wan
    rw [e]
    have h1 := hl k hk
    split
    · have := h.po _ (el_mem (l := S.rs) h1.1 h1.2.1); omega
    · omega
theorem grW_rng {S : IS} (h : IsOk S) {l : List Lk} (hl : ∀ k ∈ l, 0 ≤ k.rs ∧ k.rs < S.rs.length ∧ -1 ≤ k.po ∧ k.po ≤ 1) (i : Int) : -1 ≤ grW S l i ∧ grW S l i ≤ 1 := by
  rcases wanF_cases (movesOf (nw S l) S.fl) (wan S l) i with e | ⟨f, hf, _, e⟩
  · unfold grW; rw [e]; exact wan_rng h hl i
  · unfold grW
    rw [e]
    have := h.fl.ok f ((List.mem_filter.1 hf).1)
    omega

theorem grantS_ok {S : IS} (h : IsOk S) (t : Int) (l : List Lk) : IsOk (grantS S t l) := by
  unfold grantS
  split
  · rename_i he
    obtain ⟨ht, hl, _⟩ := grantE_zero he
    have hel : ∀ r ∈ grantR S t l, ∃ i : Int, 0 ≤ i ∧ i < S.rs.length ∧ r = grRs S t l (grW S l) i := fun r hr => by
      obtain ⟨i, hi, rfl⟩ := List.mem_map.1 hr
      have := List.mem_range.1 hi
      exact ⟨i, by omega, by omega, rfl⟩
    refine ⟨by rw [grantR_len]; exact h.n1, by rw [grantR_len]; exact h.n2, by rw [grantR_len]; exact h.fl, fun r hr => ?_, fun r hr => ?_⟩
    · obtain ⟨i, h0, h1, rfl⟩ := hel r hr
      have := h.ho _ (el_mem (l := S.rs) h0 h1)
      unfold grRs
      dsimp only
      split <;> omega
    · obtain ⟨i, h0, h1, rfl⟩ := hel r hr
      have := h.po _ (el_mem (l := S.rs) h0 h1)
      have := grW_rng h hl i
      unfold grRs
      dsimp only
      split <;> omega
  · exact h
/-! ### The loops of Grant -/

theorem repGo_mem : ∀ (l : List Lk) (B : Int → Bool), repGo l B = false → ∀ k ∈ l, B k.rs = false
  | [], _, _, k, hk => by cases hk
  | g :: r, B, h, k, hk => by
    simp only [repGo, Bool.or_eq_false_iff] at h
    rcases List.mem_cons.1 hk with rfl | hk
    · exact h.1
    · have := repGo_mem r _ h.2 k hk
      unfold upd at this
      split at this
      · cases this
      · exact this
theorem repGo_take : ∀ (l : List Lk) (B : Int → Bool) (k : Nat), repGo l B = false → (k : Int) < l.length → ∀ g ∈ l.take k, g.rs ≠ (el l (k : Int)).rs
  | [], _, k, _, hk, g, hg => by simp at hg
  | q :: r, B, 0, _, _, g, hg => by simp at hg
  | q :: r, B, k + 1, h, hk, g, hg => by
    simp only [repGo, Bool.or_eq_false_iff] at h
    have e : el (q :: r) ((k + 1 : Nat) : Int) = el r (k : Int) := by simp [el]
    rw [e]
    have hk' : (k : Int) < r.length := by simp at hk; omega
    rcases List.mem_cons.1 (show g ∈ q :: r.take k by simpa using hg) with rfl | hg
    · intro e2
      have := repGo_mem r _ h.2 _ (el_mem (l := r) (i := (k : Int)) (by omega) hk')
      rw [← e2, upd_same] at this
      cases this
    · exact repGo_take r _ k h.2 hk' g hg

theorem wan_none (S : IS) (l : List Lk) (i : Int) (h : ∀ k ∈ l, k.rs ≠ i) : wan S l i = -1 := by
  rcases wan_cases S l (fun _ => -1) i with e | ⟨k, hk, e, _⟩
  · exact e
  · exact absurd e (h k hk)
theorem wan_snoc (S : IS) (l : List Lk) (k : Lk) : wan S (l ++ [k]) = wanUp S (wan S l) k := by simp [wan, List.foldl_append]
theorem nw_snoc (S : IS) (l : List Lk) (k : Lk) : nw S (l ++ [k]) = nwUp S (nw S l) k := by simp [nw, List.foldl_append]
theorem wanF_snoc (W : Int → Int) (m : List Fk) (f : Fk) : wanF W (m ++ [f]) = upd (wanF W m) f.pt f.po := by simp [wanF, List.foldl_append]

/-- The resources while a grant is carried out: the locks 'l' and the wishes 'W' are done. -/
def GrA (S : IS) (t : Int) (l : List Lk) (W : Int → Int) (R : List Rs) : Prop := R.length = S.rs.length ∧ ∀ i : Int, 0 ≤ i → i < S.rs.length → el R i = grRs S t l W i

theorem GrA.start (S : IS) (t : Int) : GrA S t [] (wan S []) S.rs := ⟨rfl, fun i h0 h1 => by simp [grRs, wan]⟩
theorem rs_ext {a b : Rs} (h1 : a.ho = b.ho) (h2 : a.po = b.po) (h3 : a.re = b.re) (h4 : a.cl = b.cl) : a = b := by
  cases a; cases b; simp at *; exact ⟨h1, h2, h3, h4⟩

theorem GrA.lock {S : IS} {t : Int} {l : List Lk} {R : List Rs} {k : Lk} {p : Int} (h : GrA S t l (wan S l) R) (hS : IsOk S) (h0 : 0 ≤ k.rs) (h1 : k.rs < S.rs.length) (hne : ∀ g ∈ l, g.rs ≠ k.rs)
    (hp : p = if 0 ≤ k.po then k.po else (el R k.rs).po) : GrA S t (l ++ [k]) (wan S (l ++ [k])) (R.set k.rs.toNat { el R k.rs with ho := t, po := p }) := by
  refine ⟨by rw [List.length_set]; exact h.1, fun i i0 i1 => ?_⟩
  have hl : k.rs < R.length := by rw [h.1]; exact h1
  have hi := h.2 i i0 i1
  have hpo := hS.po _ (el_mem (l := S.rs) h0 h1)
  by_cases e : i = k.rs
  · subst e
    rw [el_set_same h0 hl]
    have hw : wan S l k.rs = -1 := wan_none S l k.rs hne
    have ha : l.any (fun g => decide (g.rs = k.rs)) = false := by
      rw [← Bool.not_eq_true, List.any_eq_true]
      rintro ⟨g, hg, e⟩
      exact hne g hg (of_decide_eq_true e)
    have hR : (el R k.rs).po = (el S.rs k.rs).po := by rw [hi]; simp [grRs, hw]
    apply rs_ext
    · simp [grRs]
    · simp only [grRs, wan_snoc, wanUp, upd_same, hp, hR]
      by_cases q : 0 ≤ k.po
      · rw [if_pos q, if_neg (show ¬ k.po < 0 by omega), if_pos q]
      · rw [if_neg q, if_pos (show k.po < 0 by omega), if_pos hpo.1]
    · rw [hi]; simp [grRs]
    · rw [hi]; simp [grRs]
  · rw [el_set_ne h0 i0 e, hi]
    have e' : ¬ k.rs = i := fun q => e q.symm
    apply rs_ext
    · simp [grRs, e']
    · simp only [grRs, wan_snoc, wanUp, upd_ne _ _ e]
    · simp [grRs]
    · simp [grRs]

theorem GrA.flank {S : IS} {t : Int} {l : List Lk} {W : Int → Int} {R : List Rs} {f : Fk} (h : GrA S t l W R) (h0 : 0 ≤ f.pt) (h1 : f.pt < S.rs.length) (hp : 0 ≤ f.po) :
    GrA S t l (upd W f.pt f.po) (R.set f.pt.toNat { el R f.pt with po := f.po }) := by
  refine ⟨by rw [List.length_set]; exact h.1, fun i i0 i1 => ?_⟩
  have hl : f.pt < R.length := by rw [h.1]; exact h1
  have hi := h.2 i i0 i1
  by_cases e : i = f.pt
  · subst e
    rw [el_set_same h0 hl]
    apply rs_ext
    · rw [hi]; simp [grRs]
    · simp only [grRs, upd_same, if_pos hp]
    · rw [hi]; simp [grRs]
    · rw [hi]; simp [grRs]
  · rw [el_set_ne h0 i0 e, hi]
    apply rs_ext
    · simp [grRs]
    · simp only [grRs, upd_ne _ _ e]
    · simp [grRs]
    · simp [grRs]

theorem GrA.done {S : IS} {t : Int} {l : List Lk} {R : List Rs} (h : GrA S t l (grW S l) R) : R = grantR S t l := by
  refine ext_el (by rw [h.1, grantR_len]) fun i h0 h1 => ?_
  rw [h.1] at h1
  rw [h.2 i h0 h1, grantR_el h0 h1]

/-! ### The reference's way -/

/-- 'A' says what is asked, 'V' with which wish; 'W' is both in one. -/
structure Ask (S : IS) (A : Int → Bool) (V W : Int → Int) : Prop where
  yes : ∀ i, A i = true → W i = V i ∧ 0 ≤ W i
  no : ∀ i, A i = false → W i = -1
  free : ∀ i, 0 ≤ W i → (el S.rs i).po ≠ W i → (el S.rs i).ho = -1 ∧ ¬ 0 < flk S i

theorem Ask.stuck {S : IS} {A : Int → Bool} {V W : Int → Int} {f : Fk} (h : Ask S A V W) (ha : A f.pt = true) (hv : V f.pt = f.po) : jam S f = false ∧ upd W f.pt f.po = W ∧ clash W f = false := by
  obtain ⟨h1, h2⟩ := h.yes _ ha
  refine ⟨?_, ?_, ?_⟩
  · unfold jam
    rw [decide_eq_false_iff_not]
    rintro ⟨h3, h4⟩
    have := h.free f.pt h2 (by rw [h1, hv]; exact h3)
    rcases h4 with h4 | h4
    · exact h4 this.1
    · exact this.2 h4
  · funext i
    unfold upd
    split
    · rename_i e; subst e; rw [h1, hv]
    · rfl
  · unfold clash
    rw [decide_eq_false_iff_not]
    rintro ⟨_, h4⟩
    exact h4 (h1.trans hv)
theorem Ask.clash {S : IS} {A : Int → Bool} {V W : Int → Int} {f : Fk} (h : Ask S A V W) (ha : A f.pt = true) (hv : V f.pt ≠ f.po) : Go.Wk.clash W f = true := by
  obtain ⟨h1, h2⟩ := h.yes _ ha
  unfold Go.Wk.clash
  rw [decide_eq_true_eq]
  exact ⟨h2, by rw [h1]; exact hv⟩
theorem Ask.noclash {S : IS} {A : Int → Bool} {V W : Int → Int} {f : Fk} (h : Ask S A V W) (ha : A f.pt = false) : Go.Wk.clash W f = false := by
  have h1 := h.no _ ha
  unfold Go.Wk.clash
  rw [decide_eq_false_iff_not]
  rintro ⟨h2, _⟩
  omega
theorem Ask.add {S : IS} {A : Int → Bool} {V W : Int → Int} {f : Fk} (h : Ask S A V W) (hs : jam S f = false) (hp : 0 ≤ f.po) : Ask S (upd A f.pt true) (upd V f.pt f.po) (upd W f.pt f.po) := by
  refine ⟨fun i hi => ?_, fun i hi => ?_, fun i h1 h2 => ?_⟩
  · by_cases e : i = f.pt
    · subst e; rw [upd_same, upd_same]; exact ⟨rfl, hp⟩
    · rw [upd_ne _ _ e] at hi ⊢; rw [upd_ne _ _ e]; exact h.yes i hi
  · by_cases e : i = f.pt
    · subst e; rw [upd_same] at hi; cases hi
    · rw [upd_ne _ _ e] at hi ⊢; exact h.no i hi
  · by_cases e : i = f.pt
    · subst e
      rw [upd_same] at h2
      unfold jam at hs
      rw [decide_eq_false_iff_not] at hs
      constructor
      · exact Decidable.byContradiction fun q => hs ⟨h2, .inl q⟩
      · exact fun q => hs ⟨h2, .inr q⟩
    · rw [upd_ne _ _ e] at h1 h2; exact h.free i h1 h2

def askUp (A : Int → Bool) (k : Lk) : Int → Bool := upd A k.rs true
def askAll (l : List Lk) : Int → Bool := l.foldl askUp (fun _ => false)
theorem ask_snoc (l : List Lk) (k : Lk) : askAll (l ++ [k]) = askUp (askAll l) k := by simp [askAll, List.foldl_append]
/-- What the reference wishes after the locks 'l': right where it asks. -/
def AskV (S : IS) (l : List Lk) (V : Int → Int) : Prop := ∀ i, askAll l i = true → V i = wan S l i
theorem AskV.add {S : IS} {l : List Lk} {V : Int → Int} {k : Lk} {p : Int} (h : AskV S l V) (hp : p = if k.po < 0 then (el S.rs k.rs).po else k.po) : AskV S (l ++ [k]) (upd V k.rs p) := by
  intro i hi
  rw [ask_snoc, askUp] at hi
  rw [wan_snoc, wanUp]
  by_cases e : i = k.rs
  · subst e; rw [upd_same, upd_same]; exact hp
  · rw [upd_ne _ _ e] at hi ⊢; rw [upd_ne _ _ e]; exact h i hi

theorem ask_cases (l : List Lk) (i : Int) : askAll l i = true ↔ ∃ k ∈ l, k.rs = i := by
  have key : ∀ (l : List Lk) (A : Int → Bool), (l.foldl askUp A) i = true ↔ (A i = true ∨ ∃ k ∈ l, k.rs = i) := by
    intro l
    induction l with
    | nil => intro A; simp
    | cons k l ih =>
      intro A
      rw [List.foldl_cons, ih]
      unfold askUp upd
      constructor
      · rintro (h | ⟨g, hg, e⟩)
        · split at h
          · rename_i e; exact .inr ⟨k, List.mem_cons_self, e.symm⟩
          · exact .inl h
        · exact .inr ⟨g, List.mem_cons_of_mem _ hg, e⟩
      · rintro (h | ⟨g, hg, e⟩)
        · left
          split
          · rfl
          · exact h
        · rcases List.mem_cons.1 hg with rfl | hg
          · left; rw [if_pos e.symm]
          · exact .inr ⟨g, hg, e⟩
  have h := key l (fun _ => false)
  simp only [Bool.false_eq_true, false_or] at h
  exact h

theorem lksE_all {S : IS} {t : Int} : ∀ (l : List Lk), lksE S t l = 0 → ∀ k ∈ l, lkE S t k = 0
  | [], _, k, hk => by cases hk
  | g :: r, h, k, hk => by
    unfold lksE at h
    split at h
    · rename_i hz
      rcases List.mem_cons.1 hk with rfl | hk
      · exact hz
      · exact lksE_all r h k hk
    · rename_i hz; exact absurd h hz

/-- A lock that passed and that would move its resource: the resource is free, and no flank requires it. -/
theorem lkE_free {S : IS} {t : Int} {k : Lk} (h : lkE S t k = 0) (hm : mvs S k = true) : (el S.rs k.rs).ho = -1 ∧ ¬ 0 < flk S k.rs := by
  unfold lkE at h
  rw [hm] at h
  split at h
  · simp at h
  · split at h
    · simp at h
    · rename_i h2
      split at h
      · simp at h
      · split at h
        · simp at h
        · split at h
          · simp at h
          · rename_i h5
            exact ⟨Decidable.not_not.1 h2, fun q => h5 ⟨rfl, q⟩⟩

theorem ask_start {S : IS} {t : Int} {l : List Lk} {V : Int → Int} (hS : IsOk S) (hl : ∀ k ∈ l, 0 ≤ k.rs ∧ k.rs < S.rs.length ∧ -1 ≤ k.po ∧ k.po ≤ 1) (hE : lksE S t l = 0) (h : AskV S l V) : Ask S (askAll l) V (wan S l) := by
  refine ⟨fun i hi => ⟨(h i hi).symm, ?_⟩, fun i hi => ?_, fun i h1 h2 => ?_⟩
  · rcases wan_cases S l (fun _ => -1) i with e | ⟨k, hk, hki, e⟩
    · -- asked, so some lock set it
      exfalso
      obtain ⟨k, hk, hki⟩ := (ask_cases l i).1 hi
      -- the last lock of this resource set it
      have : ∀ (l : List Lk) (W : Int → Int), (∃ k ∈ l, k.rs = i) → (∀ k ∈ l, 0 ≤ k.rs ∧ k.rs < S.rs.length ∧ -1 ≤ k.po ∧ k.po ≤ 1) → 0 ≤ (l.foldl (wanUp S) W) i := by
        intro l
        induction l with
        | nil => rintro W ⟨k, hk, _⟩; cases hk
        | cons g l ih =>
          rintro W ⟨k, hk, hki⟩ hl
          rw [List.foldl_cons]
          by_cases hex : ∃ k ∈ l, k.rs = i
          · exact ih _ hex (fun k hk => hl k (List.mem_cons_of_mem _ hk))
          · have hg : g.rs = i := by
              rcases List.mem_cons.1 hk with rfl | hk
              · exact hki
              · exact absurd ⟨k, hk, hki⟩ hex
            rcases wan_cases S l (wanUp S W g) i with e | ⟨k, hk, hki, _⟩
            · rw [e, wanUp, ← hg, upd_same]
              have hb := hl g List.mem_cons_self
              have := hS.po _ (el_mem (l := S.rs) hb.1 hb.2.1)
              split <;> omega
            · exact absurd ⟨k, hk, hki⟩ hex
      have := this l (fun _ => -1) ⟨k, hk, hki⟩ hl
      rw [e] at this
      omega
    · show 0 ≤ wan S l i
      unfold wan
      rw [e]
      have hb := hl k hk
      have := hS.po _ (el_mem (l := S.rs) hb.1 hb.2.1)
      split <;> omega
  · exact wan_none S l i fun k hk e => by
      have := (ask_cases l i).2 ⟨k, hk, e⟩
      rw [this] at hi; cases hi
  · rcases wan_cases S l (fun _ => -1) i with e | ⟨k, hk, rfl, e⟩
    · unfold wan at h1; rw [e] at h1; omega
    · unfold wan at h1 h2
      rw [e] at h1 h2
      have hz := lksE_all l hE k hk
      refine lkE_free hz ?_
      unfold mvs
      rw [decide_eq_true_eq]
      split at h2
      · exact absurd rfl h2
      · rename_i q; exact ⟨by omega, fun e => h2 e.symm⟩
/-! ### Which error it is -/
theorem grE1 {S : IS} {t : Int} {l : List Lk} (h : ¬ (0 ≤ t ∧ t < 10)) : grantE S t l = 4 := by unfold grantE; rw [if_pos h]
theorem grE2 {S : IS} {t : Int} {l : List Lk} (ht : 0 ≤ t ∧ t < 10) (h : l.any (lkBad S.rs.length) = true) : grantE S t l = 4 := by unfold grantE; rw [if_neg (not_not_intro ht), if_pos h]
theorem grE3 {S : IS} {t : Int} {l : List Lk} (ht : 0 ≤ t ∧ t < 10) (hb : l.any (lkBad S.rs.length) = false) (h : l = [] ∨ repGo l (fun _ => false) = true) : grantE S t l = 1 := by
  unfold grantE; rw [if_neg (not_not_intro ht), hb, if_neg (by decide), if_pos h]
theorem grE4 {S : IS} {t : Int} {l : List Lk} (ht : 0 ≤ t ∧ t < 10) (hb : l.any (lkBad S.rs.length) = false) (hr : ¬ (l = [] ∨ repGo l (fun _ => false) = true)) (h : lksE S t l ≠ 0) : grantE S t l = lksE S t l := by
  unfold grantE; rw [if_neg (not_not_intro ht), hb, if_neg (by decide), if_neg hr, if_pos h]
theorem grE5 {S : IS} {t : Int} {l : List Lk} (ht : 0 ≤ t ∧ t < 10) (hb : l.any (lkBad S.rs.length) = false) (hr : ¬ (l = [] ∨ repGo l (fun _ => false) = true)) (h : lksE S t l = 0) : grantE S t l = fkGo S (nw S l) S.fl (wan S l) := by
  unfold grantE; rw [if_neg (not_not_intro ht), hb, if_neg (by decide), if_neg hr, if_neg (not_not_intro h)]
theorem grS_err {S : IS} {t : Int} {l : List Lk} (h : grantE S t l ≠ 0) : grantS S t l = S := by unfold grantS; rw [if_neg h]
theorem grS_ok {S : IS} {t : Int} {l : List Lk} (h : grantE S t l = 0) : grantS S t l = ⟨grantR S t l, S.fl⟩ := by unfold grantS; rw [if_pos h]

theorem lk_all {n : Int} {l : List Lk} (h : l.all (fun k => !lkBad n k) = true) : l.any (lkBad n) = false ∧ ∀ k ∈ l, 0 ≤ k.rs ∧ k.rs < n ∧ -1 ≤ k.po ∧ k.po ≤ 1 := by
  rw [List.all_eq_true] at h
  refine ⟨?_, fun k hk => ?_⟩
  · rw [← Bool.not_eq_true, List.any_eq_true]
    rintro ⟨k, hk, hb⟩
    have := h k hk
    simp [hb] at this
  · have := h k hk
    simp only [lkBad, Bool.not_eq_true', decide_eq_false_iff_not, Decidable.not_not] at this
    exact this
theorem lk_any {n : Int} {l : List Lk} {k : Nat} (hk : (k : Int) < l.length) (h : lkBad n (el l (k : Int)) = true) : l.any (lkBad n) = true :=
  List.any_eq_true.2 ⟨_, el_mem (by omega) hk, h⟩

theorem lks_step {S : IS} {t : Int} {l : List Lk} {k : Nat} (hk : (k : Int) < l.length) (h : lksE S t l = lksE S t (l.drop k)) (hz : lkE S t (el l (k : Int)) = 0) : lksE S t l = lksE S t (l.drop (k + 1)) := by
  rw [h, drop_el hk, lksE, if_pos hz]
theorem lks_err {S : IS} {t : Int} {l : List Lk} {k : Nat} (hk : (k : Int) < l.length) (h : lksE S t l = lksE S t (l.drop k)) (hz : lkE S t (el l (k : Int)) ≠ 0) : lksE S t l = lkE S t (el l (k : Int)) := by
  rw [h, drop_el hk, lksE, if_neg hz]
theorem lks_end {S : IS} {t : Int} {l : List Lk} {k : Nat} (hk : ¬ (k : Int) < l.length) (h : lksE S t l = lksE S t (l.drop k)) : lksE S t l = 0 := by
  rw [h, drop_end hk, lksE]
theorem rep_step {l : List Lk} {k : Nat} {A B : Int → Bool} (hk : (k : Int) < l.length) (h : repGo l A = repGo (l.drop k) B) (hz : B (el l (k : Int)).rs = false) : repGo l A = repGo (l.drop (k + 1)) (upd B (el l (k : Int)).rs true) := by
  rw [h, drop_el hk, repGo, hz, Bool.false_or]
theorem rep_yes {l : List Lk} {k : Nat} {A B : Int → Bool} (hk : (k : Int) < l.length) (h : repGo l A = repGo (l.drop k) B) (hz : B (el l (k : Int)).rs = true) : repGo l A = true := by
  rw [h, drop_el hk, repGo, hz, Bool.true_or]
theorem rep_end {l : List Lk} {k : Nat} {A B : Int → Bool} (hk : ¬ (k : Int) < l.length) (h : repGo l A = repGo (l.drop k) B) : repGo l A = false := by
  rw [h, drop_end hk, repGo]

def fkp (S : IS) (r : Int) (f : Fk) : Bool := decide (f.pt = r) && held S f
theorem cnt_step {S : IS} {r : Int} {k : Nat} (hk : (k : Int) < S.fl.length) :
    (((S.fl.take (k + 1)).countP (fkp S r) : Nat) : Int) = ((S.fl.take k).countP (fkp S r) : Nat) + (if (el S.fl (k : Int)).pt = r ∧ (el S.rs (el S.fl (k : Int)).rs).ho ≠ -1 then 1 else 0) := by
  rw [take_succ_el hk, List.countP_append, List.countP_singleton]
  by_cases h : (el S.fl (k : Int)).pt = r ∧ (el S.rs (el S.fl (k : Int)).rs).ho ≠ -1
  · rw [if_pos h, if_pos (by simp [fkp, held, h.1, h.2])]; omega
  · rw [if_neg h, if_neg (by simp only [fkp, held, Bool.and_eq_true, decide_eq_true_eq]; exact h)]; omega
theorem cnt_end {S : IS} {r : Int} {k : Nat} (hk : ¬ (k : Int) < S.fl.length) : (((S.fl.take k).countP (fkp S r) : Nat) : Int) = flk S r := by
  rw [take_end hk]; rfl
theorem cnt_le {S : IS} {r : Int} {k : Nat} : ((S.fl.take k).countP (fkp S r) : Nat) ≤ k := Nat.le_trans List.countP_le_length (by simp; omega)

theorem fkGo_skip {S : IS} {B : Int → Bool} {W0 W : Int → Int} {l0 : List Fk} {k : Nat} (hk : (k : Int) < S.fl.length) (h : fkGo S B l0 W0 = fkGo S B (S.fl.drop k) W) (hn : B (el S.fl (k : Int)).rs = false) : fkGo S B l0 W0 = fkGo S B (S.fl.drop (k + 1)) W := by
  rw [h, drop_el hk, fkGo, if_pos hn]
theorem fkGo_clash {S : IS} {B : Int → Bool} {W0 W : Int → Int} {l0 : List Fk} {k : Nat} (hk : (k : Int) < S.fl.length) (h : fkGo S B l0 W0 = fkGo S B (S.fl.drop k) W) (hn : B (el S.fl (k : Int)).rs = true) (hc : clash W (el S.fl (k : Int)) = true) : fkGo S B l0 W0 = 13 := by
  rw [h, drop_el hk, fkGo, if_neg (by rw [hn]; decide), if_pos hc]
theorem fkGo_stuck {S : IS} {B : Int → Bool} {W0 W : Int → Int} {l0 : List Fk} {k : Nat} (hk : (k : Int) < S.fl.length) (h : fkGo S B l0 W0 = fkGo S B (S.fl.drop k) W) (hn : B (el S.fl (k : Int)).rs = true) (hc : clash W (el S.fl (k : Int)) = false) (hs : jam S (el S.fl (k : Int)) = true) : fkGo S B l0 W0 = 17 := by
  rw [h, drop_el hk, fkGo, if_neg (by rw [hn]; decide), if_neg (by rw [hc]; decide), if_pos hs]
theorem fkGo_step {S : IS} {B : Int → Bool} {W0 W : Int → Int} {l0 : List Fk} {k : Nat} (hk : (k : Int) < S.fl.length) (h : fkGo S B l0 W0 = fkGo S B (S.fl.drop k) W) (hn : B (el S.fl (k : Int)).rs = true) (hc : clash W (el S.fl (k : Int)) = false) (hs : jam S (el S.fl (k : Int)) = false) :
    fkGo S B l0 W0 = fkGo S B (S.fl.drop (k + 1)) (upd W (el S.fl (k : Int)).pt (el S.fl (k : Int)).po) := by
  rw [h, drop_el hk, fkGo, if_neg (by rw [hn]; decide), if_neg (by rw [hc]; decide), if_neg (by rw [hs]; decide)]
theorem fkGo_end {S : IS} {B : Int → Bool} {W0 W : Int → Int} {l0 : List Fk} {k : Nat} (hk : ¬ (k : Int) < S.fl.length) (h : fkGo S B l0 W0 = fkGo S B (S.fl.drop k) W) : fkGo S B l0 W0 = 0 := by
  rw [h, drop_end hk, fkGo]
theorem mov_step {B : Int → Bool} {fl : List Fk} {k : Nat} (hk : (k : Int) < fl.length) (h : B (el fl (k : Int)).rs = true) : movesOf B (fl.take (k + 1)) = movesOf B (fl.take k) ++ [el fl (k : Int)] := by
  rw [take_succ_el hk, movesOf, movesOf, List.filter_append, List.filter_cons_of_pos (by simpa using h), List.filter_nil]
theorem mov_skip {B : Int → Bool} {fl : List Fk} {k : Nat} (hk : (k : Int) < fl.length) (h : B (el fl (k : Int)).rs = false) : movesOf B (fl.take (k + 1)) = movesOf B (fl.take k) := by
  rw [take_succ_el hk, movesOf, movesOf, List.filter_append, List.filter_cons_of_neg (by simp [h]), List.filter_nil, List.append_nil]
theorem mov_len {B : Int → Bool} {fl : List Fk} {k : Nat} : (movesOf B (fl.take k)).length ≤ k := Nat.le_trans (List.length_filter_le _ _) (by simp; omega)
theorem wan_step {S : IS} {l : List Lk} {k : Nat} (hk : (k : Int) < l.length) : wan S (l.take (k + 1)) = upd (wan S (l.take k)) (el l (k : Int)).rs (if (el l (k : Int)).po < 0 then (el S.rs (el l (k : Int)).rs).po else (el l (k : Int)).po) := by
  rw [take_succ_el hk, wan_snoc, wanUp]
theorem nw_step {S : IS} {l : List Lk} {k : Nat} (hk : (k : Int) < l.length) : nw S (l.take (k + 1)) = upd (nw S (l.take k)) (el l (k : Int)).rs (decide ((el S.rs (el l (k : Int)).rs).ho = -1)) := by
  rw [take_succ_el hk, nw_snoc, nwUp]
theorem upd_upd {α : Type} (f : Int → α) (i : Int) (u v : α) : upd (upd f i u) i v = upd f i v := by
  funext j; unfold upd; split <;> rfl
theorem wanF_step {W : Int → Int} {m : List Fk} {k : Nat} (hk : (k : Int) < m.length) : wanF W (m.take (k + 1)) = upd (wanF W (m.take k)) (el m (k : Int)).pt (el m (k : Int)).po := by
  rw [take_succ_el hk, wanF_snoc]
theorem newGo_step {n : Int} {fl : List Fk} {k : Nat} (hk : (k : Int) < fl.length) (h : newGo n [] fl = newGo n (fl.take k) (fl.drop k)) (hz : fkE n (fl.take k) (el fl (k : Int)) = 0) : newGo n [] fl = newGo n (fl.take (k + 1)) (fl.drop (k + 1)) := by
  rw [h, drop_el hk, newGo, if_pos hz, take_succ_el hk]
theorem newGo_err {n : Int} {fl : List Fk} {k : Nat} (hk : (k : Int) < fl.length) (h : newGo n [] fl = newGo n (fl.take k) (fl.drop k)) (hz : fkE n (fl.take k) (el fl (k : Int)) ≠ 0) : newGo n [] fl = fkE n (fl.take k) (el fl (k : Int)) := by
  rw [h, drop_el hk, newGo, if_neg hz]
theorem newGo_end {n : Int} {fl : List Fk} {k : Nat} (hk : ¬ (k : Int) < fl.length) (h : newGo n [] fl = newGo n (fl.take k) (fl.drop k)) : newGo n [] fl = 0 := by
  rw [h, drop_end hk, newGo]
theorem any_take_end {α : Type} {l : List α} {q : α → Bool} {k : Nat} (hk : ¬ (k : Int) < l.length) (h : (l.take k).any q = false) : l.any q = false := by rw [take_end hk] at h; exact h
theorem any_take_step {α : Type} [Inhabited α] {l : List α} {q : α → Bool} {k : Nat} (hk : (k : Int) < l.length) (h : (l.take k).any q = false) (hq : q (el l (k : Int)) = false) : (l.take (k + 1)).any q = false := by
  rw [take_succ_el hk, List.any_append, h]; simp [hq]
theorem el_take {α : Type} [Inhabited α] {l : List α} {k : Nat} {j : Int} (h0 : 0 ≤ j) (h : j < k) : el (l.take k) j = el l j := by
  have : j.toNat < k := by omega
  simp [el, List.getD_eq_getElem?_getD, List.getElem?_take_of_lt this]
theorem held_step {S : IS} {t : Int} {k : Nat} : heldBy S t (k + 1) = heldBy S t k ++ (if 0 ≤ t ∧ t < 10 ∧ (el S.rs (k : Int)).ho = t then [(k : Int)] else []) := by
  unfold heldBy
  rw [List.range_succ, List.filter_append, List.map_append]
  by_cases h : 0 ≤ t ∧ t < 10 ∧ (el S.rs (k : Int)).ho = t
  · simp [h]
  · rw [if_neg h, List.filter_cons_of_neg (by simpa using h)]; simp
theorem held_len {S : IS} {t : Int} {k : Nat} : (heldBy S t k).length ≤ k := by
  unfold heldBy; rw [List.length_map]; exact Nat.le_trans (List.length_filter_le _ _) (by simp)
end Go.Wk
