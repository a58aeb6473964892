/-
  Walks of the functions, printed by a program out of the code and the loops' relations.
-/
import Derived.Test.YtclligkngjhihaaWkD
import Derived.Test.YtclligkngjhihaaProg
import Derived.KernelRfl
import Derived.Test.YtclligkngjhihaaI3
import Derived.Test.YtclligkngjhihaaDl
namespace Go.Proofs.Ytclligkngjhihaa
open Go.Wk Go.RowKit
set_option linter.unusedVariables false
set_option linter.unusedSimpArgs false
theorem del_out (w : World) (q g : Nat) (d : Array Int) : Out g (g + 1) w (Sort.putRow (Value.int .i64) (Sort.ahead w q) g 0 d) :=
  ⟨rfl, rfl, rfl, by simp [Sort.putRow, Sort.mapBlock, Sort.ahead], fun k hk hs => by
    simp only [Sort.putRow, Sort.mapBlock, Sort.ahead, Array.getElem?_modify]
    rw [if_neg (by omega)]⟩
theorem wo_length {l : List Int} {i : Nat} (h : i < l.length) : (wo l i).length = l.length - 1 := by
  unfold wo; rw [List.length_append, List.length_take, List.length_drop]; omega
theorem toArr_get {L : List Int} {p : Nat} {x : Int} (h : L[p]? = some x) : L.toArray[p]! = x := by simp [h]
theorem del_ok (ad : Option Addr) (c : Nat) (l : List Int) (lo hi : Nat) (i : Nat) (w : World) (hO : Ow 3 Wk.encI 1 lo hi w ad c l) (hil : i < l.length) :
    Cal Try.prog 58 [.slice ad l.length c, .int .i64 (i : Int), .int .i64 ((i : Int) + 1)] w (fun v w' => v = .slice ad (wo l i).length c ∧ Ints lo hi w' ad (wo l i) ∧ Out (blk ad) (hi1 ad) w w') := by
  have hsl := hO.sl
  have ho := hO.owns
  obtain ⟨hlen, ⟨hv, h0⟩ | ⟨g, cap, cur, hv, hg, hb, hnc, hcm, hsz, htk⟩⟩ := ho
  · omega
  · injection hv with e1 e2 e3
    subst e1; subst e3
    have hH : Sort.Holds (Value.int .i64) w g 0 l.toArray := fun j hj => by
      have hj' : j < l.length := by simpa using hj
      have hq := hsl.cell j l[j] (List.getElem?_eq_getElem hj') 0 (.int .i64 l[j]) rfl
      refine ⟨?_, by simp [World.frozen?, hb]⟩
      have e : (l.toArray)[j]! = l[j] := by simp [hj']
      rw [e]
      simpa [blk, off] using hq
    have h := Any.slices_Delete_int Try.laysDel g 0 c i (i + 1) l w hH hnc (by unfold maxLen at hcm; omega) (by omega) (by omega)
    refine Calls.mono h ?_
    rintro e w' ⟨rfl, q, rfl⟩
    have hwl := wo_length hil
    refine ⟨_, rfl, by rw [hwl, show l.length - (i + 1 - i) = l.length - 1 by omega], ⟨fun hne => hsl.plain (fun e => by rw [e] at hil; simp at hil), fun p x hx j y hy => ?_⟩, del_out w q g _⟩
    have hp : p < (wo l i).length := (List.getElem?_eq_some_iff.1 hx).1
    have hy' : j = 0 ∧ y = .int .i64 x := by
      cases j with
      | zero => exact ⟨rfl, (Option.some.inj hy).symm⟩
      | succ j => simp [Wk.encI] at hy
    obtain ⟨rfl, rfl⟩ := hy'
    have k := Sort.cell?_putRow (Value.int .i64) (Sort.ahead w q) g 0 l.toArray (l.take i ++ l.drop (i + 1) ++ List.replicate (i + 1 - i) 0).toArray (Sort.holds_ahead _ _ _ _ _ _ hH) (by simp; omega) p (by simp; omega)
    have e : (l.take i ++ l.drop (i + 1) ++ List.replicate (i + 1 - i) 0).toArray[p]! = x := by
      have h1 : (wo l i ++ List.replicate (i + 1 - i) 0)[p]? = some x := by rw [List.getElem?_append_left hp]; exact hx
      exact toArr_get h1
    rw [e] at k
    simpa [blk, off] using k
end Go.Proofs.Ytclligkngjhihaa
