/-
  More operations on slices: s[:h:m], cap; several slices of the call's own at once.
-/
import Derived.Test.YtgekfafangcggaaWkI
import Derived.Test.YtgekfafangcggaaBase
namespace Go.Wk
open Go.RowKit
set_option linter.unusedVariables false
set_option linter.unusedSimpArgs false
section
variable {P : Program} {n : Nat} {f : Nat → Value} {d : Option Tmp} {ty : TypeId} {pos : String} {af : Array Edge} {gd : Option (Nat × Bool)} {w : World} {x y z : Operand} {T E : TypeId} {sz : Nat} {k k' : IntKind} {a b : Int}
theorem y_slhm {ad : Option Addr} {m c : Nat} (h : SliceOf P T E sz) (hx : ev n f x = .slice ad m c) (hy : ev n f y = .int k a) (hz : ev n f z = .int k' b) (h0 : 0 ≤ a) (h1 : a ≤ b) (h2 : b ≤ c) : Yl P n f ⟨d, .slice T x none (some y) (some z), ty, pos, af, gd⟩ w (.slice ad a.toNat b.toNat) := by
  have hE : P.elem T = E := by simp [Program.elem, h.und]
  have hu : P.underlying T = some (.slice (P.elem T)) := by rw [hE]; exact h.und
  have hr := run_slice_hm (P := P) w T ad m c hu k k' a b h0 h1 h2
  rw [hE, h.size w] at hr
  have hs := run_sliceAt_slice (P := P) w T (.slice ad m c) none (some (.int k a)) (some (.int k' b)) hu
  rw [hr] at hs
  have e : sliced ad 0 a.toNat b.toNat sz = .slice ad a.toNat b.toNat := by
    unfold sliced
    by_cases hc : b.toNat = 0
    · simp [hc]
    · simp only [hc, if_false, Nat.zero_mul, Nat.sub_zero]
      rw [show (ad.map fun x => x.add 0) = ad from add0 ad]
  simp only [Result.andThen] at hs
  rw [e] at hs
  simp [Yl, execOp, hx, hy, hz, hs]
theorem y_cap {ad : Option Addr} {m c : Nat} {e : TypeId} {Ts : Array TypeId} (hT : P.underlying T = some (.slice e)) (hx : ev n f x = .slice ad m c) (hTs : Ts = #[T]) : Yl P n f ⟨d, .call ⟨.builtin .cap, #[x], Ts⟩, ty, pos, af, gd⟩ w (.int .i64 (c : Int)) := by
  subst hTs
  have hr : (Builtin.cap_ #[T] ty #[.slice ad m c]).run P w = .ok (.int .i64 (c : Int)) w := by
    simp [Builtin.cap_, run_underlying hT, goInt, Result.andThen]
  simp [Yl, execOp, resolve, invoke, builtin, hx, hr]
end
/-- Several slices of numbers that the call owns, in blocks of their own. -/
def encR4 (r : Option Addr × Nat × Nat) : List Value := [.slice r.1 r.2.2 r.2.1]
structure R4 (E : TypeId) (lo hi : Nat) (w : World) (rows : List (Option Addr × Nat × Nat)) : Prop where
  row : ∀ i : Nat, i < rows.length → ∃ L : List Int, L.length = (el rows (i : Int)).2.2 ∧ Ow E encI 1 lo hi w (el rows (i : Int)).1 (el rows (i : Int)).2.1 L
  dis : ∀ i j : Nat, i < rows.length → j < rows.length → i ≠ j → hi1 (el rows (i : Int)).1 ≤ blk (el rows (j : Int)).1 ∨ hi1 (el rows (j : Int)).1 ≤ blk (el rows (i : Int)).1
theorem R4.upd {E : TypeId} {lo hi : Nat} {w w' : World} {rows : List (Option Addr × Nat × Nat)} {i : Nat} {L : List Int} (h : R4 E lo hi w rows) (hi' : i < rows.length) (ho : Out (blk (el rows (i : Int)).1) (hi1 (el rows (i : Int)).1) w w') (hO : Ow E encI 1 lo hi w' (el rows (i : Int)).1 (el rows (i : Int)).2.1 L) (hl : L.length = (el rows (i : Int)).2.2) : R4 E lo hi w' rows := by
  refine ⟨fun j hj => ?_, h.dis⟩
  by_cases e : j = i
  · subst e; exact ⟨L, hl, hO⟩
  · obtain ⟨L', h1, h2⟩ := h.row j hj
    have hd := h.dis j i hj hi' e
    have hr := h2.rng
    exact ⟨L', h1, h2.out ho (by omega)⟩
end Go.Wk
