/-
  Proved here: the given statement on 'railplan/railplanlaw32.InterlockNew', as it stands, with no condition ahead of it. The frame follows the kit's shell of a proof; the walk is this repo's own.
-/
import Derived.Test.YtciljdhihnnfiaaRows
import Derived.Test.YtciljdhihnnfiaaD1
import Derived.Test.YtciljdhihnnfiaaInl
import Derived.WalkKit
import Derived.ProofKit
import Derived.OpenShut
import Derived.ShutString
import Derived.ChangeOld
import Derived.Below
namespace Go.Proofs.Ytciljdhihnnfiaa.interlockNew
open Go.ChangeShapes Go.WideShapes Go.ChangeAt Go.RowKit Go.Wk
set_option linter.unusedVariables false
set_option linter.unusedSimpArgs false

theorem own : ownKnob Try.prog.godebug = none := by kernel_rfl
theorem laidOut : laidOutB Try.prog = true := by kernel_rfl

theorem walk (x0 : Int) (a1 : Option Addr) (c1 : Nat) (l1 : List Fk) (a2 : Option Addr) (c2 : Nat) (l2 : List Int) (w : World) (w0 : (Lit.int .i64 x0).wf = true) (hL1 : Sl encFk 3 0 w.heap.size w a1 l1) (hl1 : (l1.length : Int) ≤ 9223372036854775807) (hc1 : l1.length ≤ c1) (hL2 : Ints 0 w.heap.size w a2 l2) (hl2 : (l2.length : Int) ≤ 9223372036854775807) (hw2 : ∀ z ∈ l2, (Lit.int .i64 z).wf = true) :
    Calls Try.prog 3 #[.int .i64 x0, .slice a1 l1.length c1, .slice a2 l2.length c2] w fun e w' => e = .returned (.bool true) ∧ Below w.heap.size w w' := by
  refine Calls.mono (law32_InterlockNew_ok x0 a1 c1 l1 a2 c2 l2 w hL1 hl1 hc1 hL2 hl2) ?_
  rintro e w' ⟨v, rfl, rfl, hE⟩
  exact ⟨rfl, Out.below hE (Nat.le_refl _) (.inl (Nat.le_refl _))⟩

set_option maxRecDepth 100000 in
theorem lifted (os : Os) (started : os.Started) (H : Type) (enc : TypeId × Value → H) :
    ReturnsInHanded {} Try.checked os 3 .any (Rows.interlockNewSpec.pre6 enc Try.prog Try.f3 Rows.interlockNewRow.domain false) (Rows.interlockNewSpec.post enc Try.prog Try.f3 false true false false) := by
  refine returnsInHanded_of_change (C := Try.checked) own started (by kernel_rfl) Try.func3
    (ChangeSpec.witness6 (enc := enc) (C := Try.checked) false ⟨#[], #[.int .i64 0, .slice none 0 0, .slice none 0 0], []⟩ 8 (by kernel_rfl) (by kernel_rfl) (by kernel_rfl) (by kernel_rfl)) ?_
  intro W base args ds gs before hval0 hW hcnd _
  have hval : ∀ (j : Nat) t v, Try.f3.params[j]? = some t → args[j]? = some v → Value.okWide Try.prog W .any base t v := hval0
  have hW' := hW
  obtain ⟨p, q, hA0, hV, rfl, hfz, hnd⟩ := hW
  have hA : DataW.TrodAll enc Try.prog W 0 (fun _ => true) true Try.f3.params.toList args.toList ds p := hA0
  rw [Try.params3] at hA hval
  obtain ⟨v0, vs0, d0, ds0, p0, q0, hargs, rfl, rfl, h0, r0⟩ := trodAll_cons hA
  obtain ⟨v1, vs1, d1, ds1, p1, q1, rfl, rfl, rfl, h1, r1⟩ := trodAll_cons r0
  obtain ⟨v2, vs2, d2, ds2, p2, q2, rfl, rfl, rfl, h2, r2⟩ := trodAll_cons r1
  obtain ⟨rfl, rfl, rfl⟩ := trodAll_nil r2
  obtain rfl : args = #[v0, v1, v2] := by cases args; simp_all
  obtain ⟨rfl, rfl⟩ := trodVars_none hV
  obtain ⟨x0, rfl, rfl, rfl, w0⟩ := open_int Try.underlying3 (hval 0 3 v0 rfl rfl) h0
  have k1 := h1
  have lt1 : ∀ x ∈ p1, x.block < W.heap.size := by obtain ⟨m, hm⟩ := k1; exact DataW.trod_lt m _ _ _ hm
  obtain ⟨a1, len1, c1, rfl⟩ := okWide_slice Try.underlying22 (hval 1 22 v1 rfl rfl)
  obtain ⟨l1, rfl, hl1, hL1, hc1⟩ : ∃ l : List Fk, len1 = l.length ∧ (l.length : Int) ≤ 9223372036854775807 ∧ Sl encFk 3 0 W.heap.size W a1 l ∧ l.length ≤ c1 := by
    obtain ⟨fuel, hf⟩ := h1
    obtain ⟨ad, cap, l, hcs, hll, hS, _, hcap⟩ := sl_of (en := encFk) (sz := 3) Try.underlying22 (by kernel_rfl) (by decide) (fun _ => rfl) (fun n cs x h => fk_of Try.underlying35 (by kernel_rfl) rfl (by intro i f h; rcases i with _ | _ | _ | i <;> simp at h; all_goals (subst h; exact ⟨rfl, by kernel_rfl, Try.underlying3⟩)) h) hf
    simp [Value.cells] at hcs
    obtain ⟨rfl, rfl, rfl⟩ := hcs
    exact ⟨l, rfl, hll, hS, hcap⟩
  have k2 := h2
  have lt2 : ∀ x ∈ p2, x.block < W.heap.size := by obtain ⟨m, hm⟩ := k2; exact DataW.trod_lt m _ _ _ hm
  obtain ⟨a2, len2, c2, rfl⟩ := okWide_slice Try.underlying23 (hval 2 23 v2 rfl rfl)
  obtain ⟨l2, rfl, hl2, hL2, hw2⟩ : ∃ l : List Int, len2 = l.length ∧ (l.length : Int) ≤ 9223372036854775807 ∧ Ints 0 W.heap.size W a2 l ∧ ∀ z ∈ l, (Lit.int .i64 z).wf = true := by
    obtain ⟨fuel, hf⟩ := h2
    rcases open_ints Try.underlying23 Try.underlying3 (by kernel_rfl) hf with ⟨hcs, _⟩ | ⟨x, l, c, zs, hcs, _, hl, hm, hz, _, hcell, hwz⟩
    · simp [Value.cells] at hcs
      obtain ⟨rfl, rfl, rfl⟩ := hcs
      exact ints_of (cap := 0) (.inl ⟨rfl, rfl, rfl, rfl⟩)
    · simp [Value.cells] at hcs
      obtain ⟨rfl, rfl, rfl⟩ := hcs
      exact ints_of (.inr ⟨_, rfl, hl, hm, by simpa using hz, hcell, hwz⟩)
  clear hA0 hval0
  refine (walk x0 a1 c1 l1 a2 c2 l2 W w0 hL1 hl1 hc1 hL2 hl2 hw2).mono fun e W' ⟨he, bel⟩ => ?_
  subst he
  exact ⟨_, rfl, _, _, _, [], _, [], hW', trodAll_mk1 (shut_bool Try.underlying4 _), (trodAll_cons_mk (shut_int Try.underlying3 w0) (trodAll_cons_mk (Below.trod laidOut (by kernel_rfl) (of_decide_eq_true (by kernel_rfl)) k1 bel lt1) (trodAll_cons_mk (Below.trod laidOut (by kernel_rfl) (of_decide_eq_true (by kernel_rfl)) k2 bel lt2) trodAll_mk0))), rfl, bel.frame _, fun h => by cases h⟩

theorem over : Rows.interlockNewRow.holds Try.pinned (OpenSpec.ofChange Rows.interlockNewSpec) :=
  OpenClaim.holds_of_wide 3 Try.f3 rfl rfl rfl rfl rfl rfl rfl ⟨rfl, rfl, rfl, rfl, rfl⟩ rfl rfl rfl rfl rfl (by kernel_rfl) Try.func3 (by kernel_rfl)
    (of_decide_eq_true (by kernel_rfl)) (by unfold Func.isWrapper; first | (rw [if_pos (by decide +kernel)]; kernel_rfl) | (rw [if_neg (by decide +kernel)]; exact ⟨rfl, rfl⟩))
    (fun os started H enc _ => lifted os started H enc)

/-- The statement. -/
theorem proved : Rows.InterlockNewSaid := over
end Go.Proofs.Ytciljdhihnnfiaa.interlockNew
