/-
  Walks of the functions, printed by a program out of the code and the loops' relations.
-/
import Derived.Test.YtdbiapbdmmkfjaaWkD
import Derived.Test.YtdbiapbdmmkfjaaProg
import Derived.KernelRfl
import Derived.Test.YtdbiapbdmmkfjaaF4
namespace Go.Proofs.Ytdbiapbdmmkfjaa
open Go.Wk Go.RowKit
set_option linter.unusedVariables false
set_option linter.unusedSimpArgs false
/-- Rows of truth values in memory. -/
structure Rb where
  a : Option Addr
  c : Nat
  l : List Bool
  deriving Inhabited
def encRb (r : Rb) : List Value := [.slice r.a r.l.length r.c]
structure RowsB (lo hi : Nat) (w : World) (rows : List Rb) : Prop where
  row : ∀ e : Int, 0 ≤ e → e < rows.length → Ow 4 encB 1 lo hi w (el rows e).a (el rows e).c (el rows e).l
  sep : ∀ e e' : Int, 0 ≤ e → e < rows.length → 0 ≤ e' → e' < rows.length → e ≠ e' → hi1 (el rows e).a ≤ blk (el rows e').a ∨ hi1 (el rows e').a ≤ blk (el rows e).a
theorem RowsB.out {lo hi : Nat} {w w' : World} {rows : List Rb} {a c : Nat} (h : RowsB lo hi w rows) (ho : Out a c w w') (hs : hi ≤ a ∨ c ≤ lo ∨ c ≤ a) : RowsB lo hi w' rows :=
  ⟨fun e h0 h1 => by have hr := h.row e h0 h1; have hg := hr.rng; exact hr.out ho (by omega), h.sep⟩
theorem RowsB.wide {lo hi hi' : Nat} {w : World} {rows : List Rb} (h : RowsB lo hi w rows) (h2 : hi ≤ hi') : RowsB lo hi' w rows := ⟨fun e h0 h1 => (h.row e h0 h1).wide h2, h.sep⟩
/-- A table of such rows: its own block, the rows' blocks, all apart. -/
structure Tab (z hi : Nat) (w : World) (aw : Option Addr) (cw : Nat) (p : Int) (rows : List Rb) : Prop where
  tb : Ow 68 encRb 1 z hi w aw cw rows
  rs : RowsB z hi w rows
  sp : ∀ e : Int, 0 ≤ e → e < rows.length → hi1 (el rows e).a ≤ blk aw ∨ hi1 aw ≤ blk (el rows e).a
  ln : ∀ e : Int, 0 ≤ e → e < rows.length → ((el rows e).l.length : Int) = p
theorem Tab.out {z hi a c : Nat} {w w' : World} {aw : Option Addr} {cw : Nat} {p : Int} {rows : List Rb} (h : Tab z hi w aw cw p rows) (ho : Out a c w w') (hs : hi ≤ a ∨ c ≤ z ∨ c ≤ a) : Tab z hi w' aw cw p rows :=
  ⟨by have hg := h.tb.rng; exact h.tb.out ho (by omega), h.rs.out ho hs, h.sp, h.ln⟩
theorem Tab.ext {z hi : Nat} {w w' : World} {aw : Option Addr} {cw : Nat} {p : Int} {rows : List Rb} (h : Tab z hi w aw cw p rows) (ho : Ext w w') : Tab z hi w' aw cw p rows := h.out ho (.inr (.inr (Nat.le_refl _)))
theorem Tab.wide {z hi hi' : Nat} {w : World} {aw : Option Addr} {cw : Nat} {p : Int} {rows : List Rb} (h : Tab z hi w aw cw p rows) (h2 : hi ≤ hi') : Tab z hi' w aw cw p rows := ⟨h.tb.wide h2, h.rs.wide h2, h.sp, h.ln⟩
theorem flat_set {rows : List Rb} {u : Nat} {r : Rb} (hu : u < rows.length) (he : encRb r = encRb (rows[u])) : (rows.set u r).flatMap encRb = rows.flatMap encRb := by
  have e1 : (rows.set u r).map encRb = rows.map encRb := by
    rw [List.map_set, he, ← List.getElem_map encRb (h := by simpa using hu)]
    exact List.set_getElem_self _
  rw [List.flatMap_def, List.flatMap_def, e1]
theorem Tab.upd {z hi : Nat} {w w' : World} {aw : Option Addr} {cw : Nat} {p : Int} {rows : List Rb} {u : Int} {l' : List Bool} (h : Tab z hi w aw cw p rows) (u0 : 0 ≤ u) (u1 : u < rows.length) (ho : Out (blk (el rows u).a) (hi1 (el rows u).a) w w') (hl : l'.length = (el rows u).l.length)
    (hrow : Ow 4 encB 1 z hi w' (el rows u).a (el rows u).c l') : Tab z hi w' aw cw p (rows.set u.toNat ⟨(el rows u).a, (el rows u).c, l'⟩) := by
  have es : el (rows.set u.toNat (⟨(el rows u).a, (el rows u).c, l'⟩ : Rb)) u = ⟨(el rows u).a, (el rows u).c, l'⟩ := elSetS u0 u1
  have en : ∀ i : Int, 0 ≤ i → i ≠ u → el (rows.set u.toNat (⟨(el rows u).a, (el rows u).c, l'⟩ : Rb)) i = el rows i := fun i h0 hne => elSetN u0 h0 hne
  have ea : ∀ i : Int, 0 ≤ i → (el (rows.set u.toNat (⟨(el rows u).a, (el rows u).c, l'⟩ : Rb)) i).a = (el rows i).a := fun i h0 => by
    by_cases q : i = u
    · rw [q, es]
    · rw [en i h0 q]
  have hu' : u.toNat < rows.length := by omega
  have hel : el rows u = rows[u.toNat] := by simp [el, hu']
  refine ⟨?_, ⟨fun i h0 h1 => ?_, fun i j h0 h1 h2 h3 hne => ?_⟩, fun i h0 h1 => ?_, fun i h0 h1 => ?_⟩
  · have hs := h.sp u u0 u1
    have hg := h.tb.rng
    have hg2 := (h.rs.row u u0 u1).rng
    have t := h.tb.out ho (by omega)
    refine ⟨?_, t.len, t.top⟩
    have o := t.owns
    rw [List.length_set, flat_set hu' (by rw [← hel]; simp [encRb, hl])]
    exact o
  · rw [List.length_set] at h1
    by_cases q : i = u
    · rw [q, es]; exact hrow
    · rw [en i h0 q]
      have hr := h.rs.row i h0 h1
      have hs := h.rs.sep i u h0 h1 u0 u1 q
      have hg := hr.rng
      exact hr.out ho (by omega)
  · rw [List.length_set] at h1 h3
    rw [ea i h0, ea j h2]; exact h.rs.sep i j h0 h1 h2 h3 hne
  · rw [List.length_set] at h1
    rw [ea i h0]; exact h.sp i h0 h1
  · rw [List.length_set] at h1
    by_cases q : i = u
    · rw [q, es, ← h.ln u u0 u1]
      show ((l'.length : Nat) : Int) = _
      rw [hl]
    · rw [en i h0 q]; exact h.ln i h0 h1
def totB : List Rb → Nat
  | [] => 0
  | r :: rs => r.l.count true + totB rs
theorem totB_set : ∀ (rows : List Rb) (u : Nat) (r : Rb), u < rows.length → totB (rows.set u r) + (rows.getD u default).l.count true = totB rows + r.l.count true
  | [], u, r, h => by simp at h
  | x :: rs, 0, r, h => by simp [totB]; omega
  | x :: rs, u + 1, r, h => by
    have := totB_set rs u r (by simpa using h)
    simp only [List.set_cons_succ, totB, List.getD_cons_succ]
    omega
theorem totB_el {rows : List Rb} {u : Int} {r : Rb} (u0 : 0 ≤ u) (u1 : u < rows.length) : totB (rows.set u.toNat r) + (el rows u).l.count true = totB rows + r.l.count true := totB_set rows u.toNat r (by omega)
theorem cnt_clear {l : List Bool} {d : Int} (h0 : 0 ≤ d) (h1 : d < l.length) (h : el l d = true) : (l.set d.toNat false).count true + 1 = l.count true := by
  have hd : d.toNat < l.length := by omega
  have e : l[d.toNat] = true := by simpa [el, hd] using h
  have hp : 0 < l.count true := List.count_pos_iff.2 (by rw [← e]; exact List.getElem_mem hd)
  rw [List.count_set hd, e]; simp; omega
/-- The residues that are to stay. -/
def Stay (fb : Prop) (r : Int → Int) (rows : List Rb) : Prop := fb → ∀ e : Int, 0 ≤ e → e < rows.length → el (el rows e).l (r e) = true
theorem Stay.set {fb : Prop} {r : Int → Int} {rows : List Rb} {u : Int} {a : Option Addr} {c : Nat} {l' : List Bool} (h : Stay fb r rows) (u0 : 0 ≤ u) (u1 : u < rows.length) (hl : fb → el l' (r u) = true) : Stay fb r (rows.set u.toNat ⟨a, c, l'⟩) := fun hf e e0 e1 => by
  rw [List.length_set] at e1
  by_cases q : e = u
  · rw [q, elSetS u0 u1]; exact hl hf
  · rw [elSetN u0 e0 q]; exact h hf e e0 e1

/-- The same without the table's own block: for the time in which it grows. -/
structure TabR (z hi : Nat) (w : World) (aw : Option Addr) (p : Int) (rows : List Rb) : Prop where
  rs : RowsB z hi w rows
  sp : ∀ e : Int, 0 ≤ e → e < rows.length → hi1 (el rows e).a ≤ blk aw ∨ hi1 aw ≤ blk (el rows e).a
  ln : ∀ e : Int, 0 ≤ e → e < rows.length → ((el rows e).l.length : Int) = p
theorem TabR.out {z hi a c : Nat} {w w' : World} {aw : Option Addr} {p : Int} {rows : List Rb} (h : TabR z hi w aw p rows) (ho : Out a c w w') (hs : hi ≤ a ∨ c ≤ z ∨ c ≤ a) : TabR z hi w' aw p rows := ⟨h.rs.out ho hs, h.sp, h.ln⟩
theorem TabR.ext {z hi : Nat} {w w' : World} {aw : Option Addr} {p : Int} {rows : List Rb} (h : TabR z hi w aw p rows) (ho : Ext w w') : TabR z hi w' aw p rows := h.out ho (.inr (.inr (Nat.le_refl _)))
theorem TabR.wide {z hi hi' : Nat} {w : World} {aw : Option Addr} {p : Int} {rows : List Rb} (h : TabR z hi w aw p rows) (h2 : hi ≤ hi') : TabR z hi' w aw p rows := ⟨h.rs.wide h2, h.sp, h.ln⟩
theorem TabR.nil {z hi : Nat} {w : World} {p : Int} : TabR z hi w none p [] := ⟨⟨fun e h0 h1 => by simp at h1; omega, fun e e' h0 h1 => by simp at h1; omega⟩, fun e h0 h1 => by simp at h1; omega, fun e h0 h1 => by simp at h1; omega⟩
theorem elApp1 {α : Type} [Inhabited α] {l : List α} {x : α} {e : Int} (h0 : 0 ≤ e) (h1 : e < l.length) : el (l ++ [x]) e = el l e := by
  have h : e.toNat < l.length := by omega
  simp [el, List.getD_eq_getElem?_getD, List.getElem?_append_left h]
theorem elApp2 {α : Type} [Inhabited α] {l : List α} {x : α} {e : Int} (h1 : e = l.length) : el (l ++ [x]) e = x := by
  subst h1; simp [el]
theorem TabR.app {z hi zz lr hr : Nat} {w w' : World} {aw a' : Option Addr} {p : Int} {rows : List Rb} {r : Rb} (h : TabR z hi w aw p rows) (hn : Ow 4 encB 1 lr hr w r.a r.c r.l) (hln : (r.l.length : Int) = p) (n0 : z ≤ lr) (n1 : hi ≤ lr) (n2 : hr ≤ zz) (n3 : hi1 aw ≤ lr) (n4 : hi ≤ zz) (ho : Out (blk aw) (hi1 aw) w w')
    (hat : (blk a' = blk aw ∧ hi1 a' = hi1 aw) ∨ (blk a' = zz ∧ hi1 a' = zz + 1)) : TabR z zz w' a' p (rows ++ [r]) := by
  have gn := hn.rng
  have key : ∀ e : Int, 0 ≤ e → e < (rows ++ [r]).length → (e < rows.length ∧ el (rows ++ [r]) e = el rows e) ∨ (e = rows.length ∧ el (rows ++ [r]) e = r) := fun e h0 h1 => by
    rw [List.length_append] at h1
    by_cases q : e < rows.length
    · exact .inl ⟨q, elApp1 h0 q⟩
    · have q2 : e = rows.length := by simp at h1; omega
      exact .inr ⟨q2, elApp2 q2⟩
  refine ⟨⟨fun e h0 h1 => ?_, fun e e' h0 h1 h2 h3 hne => ?_⟩, fun e h0 h1 => ?_, fun e h0 h1 => ?_⟩
  · rcases key e h0 h1 with ⟨q, k⟩ | ⟨q, k⟩
    · rw [k]
      have o := h.rs.row e h0 q
      have s := h.sp e h0 q
      have g := o.rng
      exact (o.out ho (by omega)).wide n4
    · rw [k]
      exact ((hn.out ho (by omega)).lower n0).wide n2
  · rcases key e h0 h1 with ⟨q, k⟩ | ⟨q, k⟩ <;> rcases key e' h2 h3 with ⟨q', k'⟩ | ⟨q', k'⟩
    · rw [k, k']; exact h.rs.sep e e' h0 q h2 q' hne
    · rw [k, k']
      have g := (h.rs.row e h0 q).rng
      omega
    · rw [k, k']
      have g := (h.rs.row e' h2 q').rng
      omega
    · omega
  · rcases key e h0 h1 with ⟨q, k⟩ | ⟨q, k⟩
    · rw [k]
      have g := (h.rs.row e h0 q).rng
      have s := h.sp e h0 q
      omega
    · rw [k]; omega
  · rcases key e h0 h1 with ⟨q, k⟩ | ⟨q, k⟩
    · rw [k]; exact h.ln e h0 q
    · rw [k]; exact hln
theorem Stay.app {fb : Prop} {r : Int → Int} {rows : List Rb} {x : Rb} (h : Stay fb r rows) (hx : fb → el x.l (r (rows.length : Int)) = true) : Stay fb r (rows ++ [x]) := fun hf e e0 e1 => by
  rw [List.length_append] at e1
  by_cases q : e < rows.length
  · rw [elApp1 e0 q]; exact h hf e e0 q
  · have q2 : e = rows.length := by simp at e1; omega
    rw [elApp2 q2, q2]; exact hx hf
/-- Residues of differences of times, as a table tells them. -/
structure ResOk (N : Net) (fb : Prop) (r : Int → Int) : Prop where
  rng : ∀ e : Int, 0 ≤ r e ∧ r e < N.p
  diag : ∀ i : Int, 0 ≤ i → i < N.evs.length → r (i * N.evs.length + i) = 0
  sum : ∀ i j k : Int, 0 ≤ i → i < N.evs.length → 0 ≤ j → j < N.evs.length → 0 ≤ k → k < N.evs.length → (r (i * N.evs.length + k) - r (i * N.evs.length + j)) % N.p = r (j * N.evs.length + k)
  act : fb → ∀ a ∈ N.acts, (r (a.fr * N.evs.length + a.tt) - a.mn) % N.p ≤ a.mx - a.mn
  neg : ∀ i j : Int, 0 ≤ i → i < N.evs.length → 0 ≤ j → j < N.evs.length → (-(r (i * N.evs.length + j))) % N.p = r (j * N.evs.length + i)
def resX (N : Net) (x : List Int) (e : Int) : Int := (el x (e % N.evs.length) - el x (e / N.evs.length)) % N.p
theorem resX_at {N : Net} {x : List Int} {i j : Int} (i0 : 0 ≤ i) (j0 : 0 ≤ j) (j1 : j < N.evs.length) : resX N x (i * N.evs.length + j) = (el x j - el x i) % N.p := by
  unfold resX
  have hm : (0 : Int) < N.evs.length := by omega
  have e1 : (i * N.evs.length + j) % N.evs.length = j := by rw [Int.add_comm, Int.add_mul_emod_self_right]; exact Int.emod_eq_of_lt j0 j1
  have e2 : (i * N.evs.length + j) / N.evs.length = i := by rw [Int.add_comm, Int.add_mul_ediv_right _ _ (by omega), Int.ediv_eq_zero_of_lt j0 j1, Int.zero_add]
  rw [e1, e2]
theorem resX_ok {N : Net} {x : List Int} {fb : Prop} (hN : NetOk N) (hf : fb → feas N x = true) : ResOk N fb (resX N x) := by
  have hp : 0 < N.p := by have := hN.p2; omega
  refine ⟨fun e => ⟨Int.emod_nonneg _ (by omega), Int.emod_lt_of_pos _ hp⟩, fun i i0 i1 => ?_, fun i j k i0 i1 j0 j1 k0 k1 => ?_, fun h a ha => ?_, fun i j i0 i1 j0 j1 => ?_⟩
  · rw [resX_at i0 i0 i1, Int.sub_self, Int.zero_emod]
  · rw [resX_at i0 k0 k1, resX_at i0 j0 j1, resX_at j0 k0 k1, ← Int.sub_emod]; congr 1; omega
  · have ok := hN.acs a ha
    rw [resX_at ok.f0 ok.t0 ok.t1, Int.emod_sub_emod]
    exact (feas_iff.1 (hf h)).2 a ha
  · rw [resX_at i0 j0 j1, resX_at j0 i0 i1]
    have h2 := Int.sub_emod 0 (el x j - el x i) N.p
    rw [Int.zero_emod] at h2
    rw [show -((el x j - el x i) % N.p) = 0 - ((el x j - el x i) % N.p) by omega, ← h2]; congr 1; omega
end Go.Proofs.Ytdbiapbdmmkfjaa
