/-
  Walks of the functions, printed by a program out of the code and the loops' relations.
-/
import Derived.Test.YtclligkngjhihaaWkD
import Derived.Test.YtclligkngjhihaaProg
import Derived.KernelRfl
import Derived.Test.YtclligkngjhihaaI8
namespace Go.Proofs.Ytclligkngjhihaa
open Go.Wk Go.RowKit
set_option linter.unusedVariables false
set_option linter.unusedSimpArgs false
theorem sfT_lenB {M : Net} {L : Int} (h : sfB M L = true) : (sfT M L).length = M.evs.length := by
  have h' := of_decide_eq_true h
  rw [sfT_find h'.1]
  rcases find_fst (.inr h'.2) with k | k
  · omega
  · exact k.2.len
theorem run_wn {N : Net} {B : Int} : ∀ (k : Nat) (s : FS), runTo N B k = some s → ∀ x ∈ s.wit, x.length = N.evs.length
  | 0, s, e, x, hx => by
    rw [runTo] at e
    rw [← Option.some.inj e] at hx; cases hx
  | k + 1, s, e, x, hx => by
    rw [runTo] at e
    cases hq : runTo N B k with
    | none => rw [hq] at e; cases e
    | some q =>
      rw [hq] at e
      obtain ⟨_, rfl⟩ := stepF_some e
      have ih := run_wn k q hq x
      dsimp only at hx
      split at hx
      · rename_i hb
        rcases List.mem_append.1 hx with hx | hx
        · exact ih hx
        · rw [List.mem_singleton.1 hx]; exact sfT_lenB hb
      · exact ih hx
theorem cfW_n {N : Net} {B : Int} : ∀ x ∈ cfW N B, x.length = N.evs.length := by
  intro x hx
  unfold cfW at hx
  split at hx
  · split at hx
    · rename_i s hs; exact run_wn _ s hs x hx
    · cases hx
  · cases hx
theorem elApp1 {α : Type} [Inhabited α] {l : List α} {x : α} {e : Int} (h0 : 0 ≤ e) (h1 : e < l.length) : el (l ++ [x]) e = el l e := by
  have h : e.toNat < l.length := by omega
  simp [el, List.getD_eq_getElem?_getD, List.getElem?_append_left h]
theorem elApp2 {α : Type} [Inhabited α] {l : List α} {x : α} {e : Int} (h1 : e = l.length) : el (l ++ [x]) e = x := by
  subst h1; simp [el]
theorem mem_el {α : Type} [Inhabited α] {l : List α} {x : α} (h : x ∈ l) : ∃ e : Int, 0 ≤ e ∧ e < l.length ∧ el l e = x := by
  obtain ⟨i, hi, rfl⟩ := List.getElem_of_mem h
  exact ⟨(i : Int), by omega, by omega, by simp [el, hi]⟩
/-- Rows of the call's own, beside one another and beside the table. -/
structure WOwn (z hi : Nat) (w : World) (aw : Option Addr) (rows : List Rw) : Prop where
  rs : RowsIn z hi w rows
  sp : ∀ e : Int, 0 ≤ e → e < rows.length → hi1 (el rows e).a ≤ blk aw ∨ hi1 aw ≤ blk (el rows e).a
theorem WOwn.out {z hi a c : Nat} {w w' : World} {aw : Option Addr} {rows : List Rw} (h : WOwn z hi w aw rows) (ho : Out a c w w') (hs : hi ≤ a ∨ c ≤ z ∨ c ≤ a) : WOwn z hi w' aw rows := ⟨h.rs.out ho hs, h.sp⟩
theorem WOwn.ext {z hi : Nat} {w w' : World} {aw : Option Addr} {rows : List Rw} (h : WOwn z hi w aw rows) (ho : Ext w w') : WOwn z hi w' aw rows := ⟨h.rs.ext ho, h.sp⟩
theorem WOwn.wide {z hi hi' : Nat} {w : World} {aw : Option Addr} {rows : List Rw} (h : WOwn z hi w aw rows) (h2 : hi ≤ hi') : WOwn z hi' w aw rows := ⟨h.rs.wide h2, h.sp⟩
structure RwI (z hi : Nat) (w : World) (rows : List Rw) : Prop where
  row : ∀ r ∈ rows, Ints z hi w r.a r.l
theorem RwI.out {z hi a c : Nat} {w w' : World} {rows : List Rw} (h : RwI z hi w rows) (ho : Out a c w w') (hs : hi ≤ a ∨ c ≤ z ∨ c ≤ a) : RwI z hi w' rows := ⟨fun r hr => (h.row r hr).out ho hs⟩
theorem RwI.ext {z hi : Nat} {w w' : World} {rows : List Rw} (h : RwI z hi w rows) (ho : Ext w w') : RwI z hi w' rows := ⟨fun r hr => (h.row r hr).ext ho⟩
theorem RwI.sub {z hi : Nat} {w : World} {rows rows' : List Rw} (h : RwI z hi w rows) (hs : ∀ r ∈ rows', r ∈ rows) : RwI z hi w rows' := ⟨fun r hr => h.row r (hs r hr)⟩
theorem RwI.of {z hi : Nat} {w : World} {rows : List Rw} (h : RowsIn z hi w rows) : RwI z hi w rows := ⟨fun r hr => by
  obtain ⟨e, h0, h1, rfl⟩ := mem_el hr
  exact (h.row e h0 h1).sl⟩
theorem WOwn.after {z hi : Nat} {w w' : World} {aw : Option Addr} {rows : List Rw} (h : WOwn z hi w aw rows) (ho : Out (blk aw) (hi1 aw) w w') : RwI z hi w' rows := ⟨fun r hr => by
  obtain ⟨e, h0, h1, rfl⟩ := mem_el hr
  have k := h.rs.row e h0 h1
  have s := h.sp e h0 h1
  have g := k.rng
  exact (k.out ho (by omega)).sl⟩
theorem WOwn.app {z hi zz lr hr : Nat} {w w' : World} {aw a' : Option Addr} {rows : List Rw} {r : Rw} (h : WOwn z hi w aw rows) (hn : Ow 3 Wk.encI 1 lr hr w r.a r.c r.l) (n0 : z ≤ lr) (n1 : hi ≤ lr) (n2 : hr ≤ zz) (n3 : hi1 aw ≤ lr) (n4 : hi ≤ zz) (ho : Out (blk aw) (hi1 aw) w w')
    (hat : (blk a' = blk aw ∧ hi1 a' = hi1 aw) ∨ (blk a' = zz ∧ hi1 a' = zz + 1)) : WOwn z zz w' a' (rows ++ [r]) := by
  have gn := hn.rng
  have key : ∀ e : Int, 0 ≤ e → e < (rows ++ [r]).length → (e < rows.length ∧ el (rows ++ [r]) e = el rows e) ∨ (e = rows.length ∧ el (rows ++ [r]) e = r) := fun e h0 h1 => by
    rw [List.length_append] at h1
    by_cases q : e < rows.length
    · exact .inl ⟨q, elApp1 h0 q⟩
    · have q2 : e = rows.length := by simp at h1; omega
      exact .inr ⟨q2, elApp2 q2⟩
  refine ⟨⟨fun e h0 h1 => ?_, fun e e' h0 h1 h2 h3 hne => ?_⟩, fun e h0 h1 => ?_⟩
  · rcases key e h0 h1 with ⟨q, k⟩ | ⟨q, k⟩
    · rw [k]
      have o := h.rs.row e h0 q
      have s := h.sp e h0 q
      have g := o.rng
      exact (o.out ho (by omega)).wide n4
    · rw [k]
      exact ((hn.out ho (by omega)).lower n0).wide n2
  · rcases key e h0 h1 with ⟨q, k⟩ | ⟨q, k⟩ <;> rcases key e' h2 h3 with ⟨q', k'⟩ | ⟨q', k'⟩
    · rw [k, k']; exact h.rs.sep e e' h0 q h2 q' hne
    · rw [k, k']
      have g := (h.rs.row e h0 q).rng
      omega
    · rw [k, k']
      have g := (h.rs.row e' h2 q').rng
      omega
    · omega
  · rcases key e h0 h1 with ⟨q, k⟩ | ⟨q, k⟩
    · rw [k]
      have g := (h.rs.row e h0 q).rng
      have s := h.sp e h0 q
      omega
    · rw [k]; omega
theorem WOwn.nil {z hi : Nat} {w : World} : WOwn z hi w none [] := ⟨⟨fun e h0 h1 => by simp at h1; omega, fun e e' h0 h1 => by simp at h1; omega⟩, fun e h0 h1 => by simp at h1; omega⟩
theorem Ow.take {α : Type} {E : TypeId} {enc : α → List Value} {sz lo hi : Nat} {w : World} {ad : Option Addr} {c : Nat} {l : List α} (h : Ow E enc sz lo hi w ad c l) (k : Nat) : Ow E enc sz lo hi w ad c (l.take k) := by
  have e1 : (l.take k).flatMap enc = (l.flatMap enc).take ((l.take k).length * sz) := by
    have e2 : l.flatMap enc = (l.take k).flatMap enc ++ (l.drop k).flatMap enc := by rw [← List.flatMap_append, List.take_append_drop]
    have e3 : ((l.take k).flatMap enc).length = (l.take k).length * sz := flat_len h.len _
    rw [e2, ← e3, List.take_left]
  refine ⟨⟨flat_len h.len _, ?_⟩, h.len, h.top⟩
  rcases h.owns.2 with ⟨h1, h2⟩ | ⟨g, cap, cur, h1, h2, h3, h4, h5, h6, h7⟩
  · refine .inl ⟨?_, by rw [List.length_take]; omega⟩
    simp at h1
    obtain ⟨rfl, _, rfl⟩ := h1
    rw [show (l.take k).length = 0 by rw [List.length_take]; omega]
  · simp at h1
    obtain ⟨rfl, rfl⟩ := h1
    have hl : (l.take k).length ≤ l.length := by rw [List.length_take]; omega
    refine .inr ⟨g, c, cur, rfl, h2, h3, by omega, h5, h6, ?_⟩
    rw [e1, ← h7, List.take_take, show min ((l.take k).length * sz) (l.length * sz) = (l.take k).length * sz from Nat.min_eq_left (Nat.mul_le_mul_right _ hl)]
theorem Sl.setE {lo hi : Nat} {w : World} {ad : Option Addr} {rows : List Rw} {j : Nat} {r : Rw} (h : Sl encRw 1 lo hi w ad rows) (hj : j < rows.length) (he : encRw r = encRw (el rows (j : Int))) : Sl encRw 1 lo hi w ad (rows.set j r) := by
  refine ⟨fun hne => h.plain (fun e => hne (by rw [e]; rfl)), fun i x hx q y hy => ?_⟩
  by_cases e : i = j
  · subst e
    rw [List.getElem?_set_self hj] at hx
    have hx' := Option.some.inj hx
    rw [← hx', he] at hy
    exact h.cell i _ (el_get (l := rows) (i := (i : Int)) (by omega) (by omega)) q y hy
  · rw [List.getElem?_set_ne (by omega)] at hx
    exact h.cell i x hx q y hy
end Go.Proofs.Ytclligkngjhihaa
