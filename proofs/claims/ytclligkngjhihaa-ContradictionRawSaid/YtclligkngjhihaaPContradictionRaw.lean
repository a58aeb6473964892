/-
  Proved here: the given statement on 'railplan/railplanlaw18.ContradictionRaw', as it stands, with no condition ahead of it. The frame follows the kit's shell of a proof; the walk is this repo's own.
-/
import Derived.Test.YtclligkngjhihaaRows
import Derived.Test.YtclligkngjhihaaI8
import Derived.Test.YtclligkngjhihaaIn
import Derived.WalkKit
import Derived.ProofKit
import Derived.OpenShut
import Derived.ShutString
import Derived.ChangeOld
import Derived.Below
namespace Go.Proofs.Ytclligkngjhihaa.contradictionRaw
open Go.ChangeShapes Go.WideShapes Go.ChangeAt Go.RowKit Go.Wk
set_option linter.unusedVariables false
set_option linter.unusedSimpArgs false

theorem own : ownKnob Try.prog.godebug = none := by kernel_rfl
theorem laidOut : laidOutB Try.prog = true := by kernel_rfl

set_option maxRecDepth 100000 in
theorem netOf {H : Type} {enc : TypeId × Value → H} {w : World} {base b0 : Nat} {spare : Nat → Bool} {held : Bool} {r : Reach} {v : Value} {d : DataW H} {p : List MemPlace} (hv : Value.okWide Try.prog w r b0 26 v) (h : DataW.Trod enc Try.prog w base spare held 26 v d p) : ∃ N A, v = netV N A ∧ NetIn 0 w.heap.size w N A ∧ NetWf N :=
  net_of Try.underlying26 (by kernel_rfl) (by kernel_rfl) Try.underlying3 Try.underlying23 Try.underlying24 Try.underlying34 (by kernel_rfl) rfl (by intro i f h; rcases i with _ | _ | _ | i <;> simp at h; all_goals (subst h; exact ⟨rfl, by kernel_rfl, Try.underlying3⟩)) Try.underlying36 (by kernel_rfl) rfl (by intro i f h; rcases i with _ | _ | _ | _ | _ | _ | i <;> simp at h; all_goals (subst h; exact ⟨rfl, by kernel_rfl, Try.underlying3⟩)) hv h

theorem walk (N0 : Net) (A0 : NetA) (S1 : List Int) (a1 : Option Addr) (c1 : Nat) (rows1 : List Rw) (aw1 : Option Addr) (cw1 : Nat) (x2 : Int) (w : World) (hN0 : NetIn 0 w.heap.size w N0 A0) (hq0 : NetWf N0) (hS1 : Ints 0 w.heap.size w a1 S1) (hcs1 : S1.length ≤ c1) (hsn1 : (S1.length : Int) ≤ 9223372036854775807) (hW1 : WitIn 0 w.heap.size w aw1 rows1) (hwn1 : (rows1.length : Int) ≤ 9223372036854775807) (w2 : (Lit.int .i64 x2).wf = true) :
    Calls Try.prog 10 #[netV N0 A0, .agg #[.slice a1 S1.length c1, .slice aw1 rows1.length cw1], .int .i64 x2] w fun e w' => e = .returned (.bool true) ∧ Below w.heap.size w w' := by
  refine Calls.mono (law18_ContradictionRaw_ok N0 A0 S1 a1 c1 rows1 aw1 cw1 x2 w hN0 hS1 hcs1 hsn1 hW1 hwn1) ?_
  rintro e w' ⟨v, rfl, rfl, hE⟩
  exact ⟨rfl, Out.below hE (Nat.le_refl _) (.inl (Nat.le_refl _))⟩

set_option maxRecDepth 100000 in
theorem lifted (os : Os) (started : os.Started) (H : Type) (enc : TypeId × Value → H) :
    ReturnsInHanded {} Try.checked os 10 .any (Rows.contradictionRawSpec.pre6 enc Try.prog Try.f10 Rows.contradictionRawRow.domain false) (Rows.contradictionRawSpec.post enc Try.prog Try.f10 false true false false) := by
  refine returnsInHanded_of_change (C := Try.checked) own started (by kernel_rfl) Try.func10
    (ChangeSpec.witness6 (enc := enc) (C := Try.checked) false ⟨#[], #[.agg #[.int .i64 0, .slice none 0 0, .slice none 0 0], .agg #[.slice none 0 0, .slice none 0 0], .int .i64 0], []⟩ 8 (by kernel_rfl) (by kernel_rfl) (by kernel_rfl) (by kernel_rfl)) ?_
  intro W base args ds gs before hval0 hW hcnd _
  have hval : ∀ (j : Nat) t v, Try.f10.params[j]? = some t → args[j]? = some v → Value.okWide Try.prog W .any base t v := hval0
  have hW' := hW
  obtain ⟨p, q, hA0, hV, rfl, hfz, hnd⟩ := hW
  have hA : DataW.TrodAll enc Try.prog W 0 (fun _ => true) true Try.f10.params.toList args.toList ds p := hA0
  rw [Try.params10] at hA hval
  obtain ⟨v0, vs0, d0, ds0, p0, q0, hargs, rfl, rfl, h0, r0⟩ := trodAll_cons hA
  obtain ⟨v1, vs1, d1, ds1, p1, q1, rfl, rfl, rfl, h1, r1⟩ := trodAll_cons r0
  obtain ⟨v2, vs2, d2, ds2, p2, q2, rfl, rfl, rfl, h2, r2⟩ := trodAll_cons r1
  obtain ⟨rfl, rfl, rfl⟩ := trodAll_nil r2
  obtain rfl : args = #[v0, v1, v2] := by cases args; simp_all
  obtain ⟨rfl, rfl⟩ := trodVars_none hV
  have k0 := h0
  have lt0 : ∀ x ∈ p0, x.block < W.heap.size := by obtain ⟨m, hm⟩ := k0; exact DataW.trod_lt m _ _ _ hm
  obtain ⟨N0, A0, rfl, hN0, hq0⟩ := netOf (hval 0 26 v0 rfl rfl) h0
  have k1 := h1
  have lt1 : ∀ x ∈ p1, x.block < W.heap.size := by obtain ⟨m, hm⟩ := k1; exact DataW.trod_lt m _ _ _ hm
  obtain ⟨S1, a1, c1, rows1, aw1, cw1, rfl, hS1, hcs1, hsn1, hW1, hwn1⟩ := ref_of Try.underlying46 (by kernel_rfl) (by kernel_rfl) Try.underlying22 Try.underlying44 Try.underlying22 Try.underlying3 (by kernel_rfl) (by kernel_rfl) (hval 1 46 v1 rfl rfl) h1
  obtain ⟨x2, rfl, rfl, rfl, w2⟩ := open_int Try.underlying3 (hval 2 3 v2 rfl rfl) h2
  clear hA0 hval0
  refine (walk N0 A0 S1 a1 c1 rows1 aw1 cw1 x2 W hN0 hq0 hS1 hcs1 hsn1 hW1 hwn1 w2).mono fun e W' ⟨he, bel⟩ => ?_
  subst he
  exact ⟨_, rfl, _, _, _, [], _, [], hW', trodAll_mk1 (shut_bool Try.underlying4 _), (trodAll_cons_mk (Below.trod laidOut (by kernel_rfl) (of_decide_eq_true (by kernel_rfl)) k0 bel lt0) (trodAll_cons_mk (Below.trod laidOut (by kernel_rfl) (of_decide_eq_true (by kernel_rfl)) k1 bel lt1) (trodAll_cons_mk (shut_int Try.underlying3 w2) trodAll_mk0))), rfl, bel.frame _, fun h => by cases h⟩

theorem over : Rows.contradictionRawRow.holds Try.pinned (OpenSpec.ofChange Rows.contradictionRawSpec) :=
  OpenClaim.holds_of_wide 10 Try.f10 rfl rfl rfl rfl rfl rfl rfl ⟨rfl, rfl, rfl, rfl, rfl⟩ rfl rfl rfl rfl rfl (by kernel_rfl) Try.func10 (by kernel_rfl)
    (of_decide_eq_true (by kernel_rfl)) (by unfold Func.isWrapper; first | (rw [if_pos (by decide +kernel)]; kernel_rfl) | (rw [if_neg (by decide +kernel)]; exact ⟨rfl, rfl⟩))
    (fun os started H enc _ => lifted os started H enc)

/-- The statement. -/
theorem proved : Rows.ContradictionRawSaid := over
end Go.Proofs.Ytclligkngjhihaa.contradictionRaw
