/-
  Walks of the functions, printed by a program out of the code and the loops' relations.
-/
import Derived.Test.YtclligkngjhihaaWkD
import Derived.Test.YtclligkngjhihaaProg
import Derived.KernelRfl
import Derived.Test.YtclligkngjhihaaK1
import Derived.Test.YtclligkngjhihaaCz
namespace Go.Proofs.Ytclligkngjhihaa
open Go.Wk Go.RowKit
set_option linter.unusedVariables false
set_option linter.unusedSimpArgs false
theorem met_ex {n : Nat} {f : Nat → Int} {m : Nat} (h1 : ∀ q : Nat, q < m → 0 ≤ f q ∧ f q < n) (h2 : ∀ i j : Nat, i < j → j < m → f i ≠ f j) : ∀ k : Nat, k ≤ m → ∃ l : List Bool, l.length = n ∧ MetTo f k l ∧ l.count true = k
  | 0, _ => ⟨List.replicate n false, by simp, MetTo.zero, by simp [List.count_replicate]⟩
  | k + 1, hk => by
    obtain ⟨l, hl, hm, hc⟩ := met_ex h1 h2 k (by omega)
    have hr := h1 k (by omega)
    have hf : el l (f k) = false := by
      cases e : el l (f k) with
      | false => rfl
      | true =>
        obtain ⟨q, hq, he⟩ := (hm (f k) hr.1 (by omega)).1 e
        exact absurd he (h2 q k hq (by omega))
    exact ⟨l.set (f k).toNat true, by simp [hl], hm.put hr.1 (by omega), by rw [cnt_set hr.1 (by omega) hf, hc]⟩
theorem inj_len {n : Nat} (m : Nat) (f : Nat → Int) (h1 : ∀ q : Nat, q < m → 0 ≤ f q ∧ f q < n) (h2 : ∀ i j : Nat, i < j → j < m → f i ≠ f j) : m ≤ n := by
  obtain ⟨l, hl, _, hc⟩ := met_ex h1 h2 m (Nat.le_refl _)
  have : l.count true ≤ l.length := List.count_le_length
  omega
theorem cy_len {N : Net} {arcs signs : List Int} (h : CyOk N arcs signs) : arcs.length ≤ N.acts.length :=
  inj_len arcs.length (fun q => el arcs (q : Int)) (fun q hq => ⟨(h.a.rng q hq).1, (h.a.rng q hq).2.1⟩) (fun i j hi hj => h.a.dist i j hi hj)

theorem nilS0 {α : Type} {enc : α → List Value} {sz lo hi : Nat} {w : World} : Sl enc sz lo hi w none ([] : List α) := ⟨fun h => absurd rfl h, fun i x hx => by simp at hx⟩
theorem elMapC {α β : Type} [Inhabited α] [Inhabited β] {l : List α} {g : α → β} {i : Int} (h0 : 0 ≤ i) (h1 : i < l.length) : el (l.map g) i = g (el l i) := by
  have h : i.toNat < l.length := by omega
  simp [el, List.getD_eq_getElem?_getD, h]

set_option maxRecDepth 100000 in
theorem ref11_has_ok (l : List Int) (al : Option Addr) (cl ll hl : Nat) (x : Int) (m : Nat) (w : World) (hm : l.length = m) (hL : Ints ll hl w al l) (hn : (l.length : Int) ≤ 9223372036854775807) : Cal Try.prog 49 [.slice al m cl, .int .i64 x] w (fun v w' => v = .bool (decide (x ∈ l)) ∧ Ext w w') := by
 subst hm
 replace hL := Ints.full hL
 have hE : Out 0 0 w w := Out.refl _ _ w
 refine enter Try.func49 rfl Try.ntmps49 rfl ?_
 refine wp_seq ?_
 refine rg ?_
 refine st (asB rfl) ?_
 refine rg_end ?_
 refine n_then ?_
 refine wp_seq ?_
 refine wp_seq ?_
 refine rg ?_
 refine st (asI rfl) ?_
 refine rg_end ?_
 refine n_then ?_
 refine wp_block ?_
 refine lp (γ := Nat) [4, 5, 6, 7, 8, 9, 10, 11, 12, 13, 14, 15, 16, 17] (fun k => [(5, .int .i64 (k : Int))]) (fun k w_ => Ext w w_ ∧ (k : Int) ≤ l.length ∧ ∀ q : Nat, q < k → el l (q : Int) ≠ x) (fun k => l.length - k) 0 ⟨rfl, trivial⟩ ⟨Out.refl _ _ _, by omega, fun q hq => by omega⟩ ?_
 rintro k hav_ w1 ⟨ho2, hk, hall⟩
 have hlp0 := ho2
 have hz3 := ho2.size
 replace hL := hL.ext ho2
 replace hE := hE.step ho2 (.inl (Nat.le_refl _))
 refine wp_seq ?_
 refine wp_seq ?_
 refine rg ?_
 refine st (mvI rfl) ?_
 refine st (mvS rfl) ?_
 refine st (y_len Try.underlying22 rfl) ?_
 refine st (y_lss rfl rfl) ?_
 refine rg_end ?_
 refine n_then ?_
 refine cnd rfl (fun hc0 => ?_) (fun hc0 => ?_)
 ·
  try simp only [nm] at hc0
  refine wp_skip ?_
  refine n_then ?_
  refine wp_seq ?_
  refine wp_block ?_
  refine wp_seq ?_
  refine rg ?_
  refine st (mvS rfl) ?_
  refine st (mvI rfl) ?_
  refine st (y_ix hL sl22 rfl (rfl) rfl (by omega) (by omega)) ?_
  refine st (y_le hL na3 rfl (by omega) (by omega) rfl) ?_
  refine st (mvI rfl) ?_
  refine st (y_eql rfl rfl) ?_
  refine rg_end ?_
  refine n_then ?_
  refine cnd rfl (fun hc1 => ?_) (fun hc1 => ?_)
  ·
   try simp only [nm] at hc1
   have hin : x ∈ l := hc1 ▸ el_mem (by omega) (by omega)
   refine wp_seq ?_
   refine rg ?_
   refine st (asB rfl) ?_
   refine rg_end ?_
   refine n_then ?_
   refine wp_ret ?_
   refine r_blk (r_then (r_then (r_blk (r_then (ret1 (v := (.bool _)) Try.results49 rfl ?_)))))
   exact ⟨vb (by simp [hin]), hE⟩
  ·
   try simp only [nm] at hc1
   have hall1 : ∀ q : Nat, q < k + 1 → el l (q : Int) ≠ x := fun q hq => by
     by_cases e : q = k
     · subst e; exact hc1
     · exact hall q (by omega)
   refine wp_skip ?_
   refine n_blk ?_
   refine n_then ?_
   refine rg ?_
   refine st (mvI rfl) ?_
   refine st (y_add rfl rfl (by omega)) ?_
   refine st (asI rfl) ?_
   refine rg_end ?_
   exact n_then ⟨k + 1, _, rfl, same_lk rfl (same_h0), ⟨rfl, trivial⟩, ⟨hlp0, by omega, hall1⟩, by first | omega | (dsimp only; omega)⟩
 ·
  try simp only [nm] at hc0
  have hni : ¬ x ∈ l := fun h => by
    obtain ⟨i, hi, e⟩ := List.getElem_of_mem h
    exact hall i (by omega) (by simpa [el, hi] using e)
  refine wp_exit ?_
  refine e_then (e_then (e_blk (?_)))
  refine n_then ?_
  refine wp_seq ?_
  refine rg ?_
  refine st (asB rfl) ?_
  refine rg_end ?_
  refine n_then ?_
  refine wp_ret ?_
  refine ret1 (v := (.bool _)) Try.results49 rfl ?_
  exact ⟨vb (by simp [hni]), hE⟩
end Go.Proofs.Ytclligkngjhihaa
