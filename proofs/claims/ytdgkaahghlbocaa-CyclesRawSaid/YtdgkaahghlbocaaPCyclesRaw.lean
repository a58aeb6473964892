/-
  Proved here: the given statement on 'railplan/railplanlaw12.CyclesRaw', as it stands, with no condition ahead of it. The frame follows the kit's shell of a proof; the walk is this repo's own.
-/
import Derived.Test.YtdgkaahghlbocaaRows
import Derived.Test.YtdgkaahghlbocaaSC
import Derived.Test.YtdgkaahghlbocaaIn
import Derived.WalkKit
import Derived.ProofKit
import Derived.OpenShut
import Derived.ShutString
import Derived.ChangeOld
import Derived.Below
namespace Go.Proofs.Ytdgkaahghlbocaa.cyclesRaw
open Go.ChangeShapes Go.WideShapes Go.ChangeAt Go.RowKit Go.Wk
set_option linter.unusedVariables false
set_option linter.unusedSimpArgs false

theorem own : ownKnob Try.prog.godebug = none := by kernel_rfl
theorem laidOut : laidOutB Try.prog = true := by kernel_rfl

set_option maxRecDepth 100000 in
theorem netOf {H : Type} {enc : TypeId × Value → H} {w : World} {base b0 : Nat} {spare : Nat → Bool} {held : Bool} {r : Reach} {v : Value} {d : DataW H} {p : List MemPlace} (hv : Value.okWide Try.prog w r b0 26 v) (h : DataW.Trod enc Try.prog w base spare held 26 v d p) : ∃ N A, v = netV N A ∧ NetIn 0 w.heap.size w N A ∧ NetWf N :=
  net_of Try.underlying26 (by kernel_rfl) (by kernel_rfl) Try.underlying3 Try.underlying23 Try.underlying24 Try.underlying64 (by kernel_rfl) rfl (by intro i f h; rcases i with _ | _ | _ | i <;> simp at h; all_goals (subst h; exact ⟨rfl, by kernel_rfl, Try.underlying3⟩)) Try.underlying43 (by kernel_rfl) rfl (by intro i f h; rcases i with _ | _ | _ | _ | _ | _ | i <;> simp at h; all_goals (subst h; exact ⟨rfl, by kernel_rfl, Try.underlying3⟩)) hv h

theorem walk (N0 : Net) (A0 : NetA) (a1 : Option Addr) (c1 : Nat) (l1 : List Int) (a2 : Option Addr) (c2 : Nat) (l2 : List Int) (a3 : Option Addr) (c3 : Nat) (l3 : List Int) (S4 : List Int) (a4 : Option Addr) (c4 : Nat) (R4 : List Int) (aw4 : Option Addr) (cw4 : Nat) (w : World) (hN0 : NetIn 0 w.heap.size w N0 A0) (hq0 : NetWf N0) (hL1 : Ints 0 w.heap.size w a1 l1) (hl1 : (l1.length : Int) ≤ 9223372036854775807) (hw1 : ∀ z ∈ l1, (Lit.int .i64 z).wf = true) (hL2 : Ints 0 w.heap.size w a2 l2) (hl2 : (l2.length : Int) ≤ 9223372036854775807) (hw2 : ∀ z ∈ l2, (Lit.int .i64 z).wf = true) (hL3 : Ints 0 w.heap.size w a3 l3) (hl3 : (l3.length : Int) ≤ 9223372036854775807) (hw3 : ∀ z ∈ l3, (Lit.int .i64 z).wf = true) (hS4 : Ints 0 w.heap.size w a4 S4) (hcs4 : S4.length ≤ c4) (hsn4 : (S4.length : Int) ≤ 9223372036854775807) (hR4 : Ints 0 w.heap.size w aw4 R4) (hrn4 : (R4.length : Int) ≤ 9223372036854775807) :
    Calls Try.prog 11 #[netV N0 A0, .slice a1 l1.length c1, .slice a2 l2.length c2, .slice a3 l3.length c3, .agg #[.slice a4 S4.length c4, .slice aw4 R4.length cw4]] w fun e w' => e = .returned (.bool true) ∧ Below w.heap.size w w' := by
  refine Calls.mono (law12_CyclesRaw_ok N0 A0 _ _ l1 a1 c1 _ _ l2 a2 c2 _ _ l3 a3 c3 _ _ S4 a4 c4 _ _ R4 aw4 cw4 _ _ w hN0 hL1 hl1 hL2 hl2 hL3 hl3 hS4 hsn4 hR4 hrn4 hcs4) ?_
  rintro e w' ⟨v, rfl, rfl, hE⟩
  exact ⟨rfl, Out.below hE (Nat.le_refl _) (.inl (Nat.le_refl _))⟩

set_option maxRecDepth 100000 in
theorem lifted (os : Os) (started : os.Started) (H : Type) (enc : TypeId × Value → H) :
    ReturnsInHanded {} Try.checked os 11 .any (Rows.cyclesRawSpec.pre6 enc Try.prog Try.f11 Rows.cyclesRawRow.domain false) (Rows.cyclesRawSpec.post enc Try.prog Try.f11 false true false false) := by
  refine returnsInHanded_of_change (C := Try.checked) own started (by kernel_rfl) Try.func11
    (ChangeSpec.witness6 (enc := enc) (C := Try.checked) false ⟨#[], #[.agg #[.int .i64 0, .slice none 0 0, .slice none 0 0], .slice none 0 0, .slice none 0 0, .slice none 0 0, .agg #[.slice none 0 0, .slice none 0 0]], []⟩ 8 (by kernel_rfl) (by kernel_rfl) (by kernel_rfl) (by kernel_rfl)) ?_
  intro W base args ds gs before hval0 hW hcnd _
  have hval : ∀ (j : Nat) t v, Try.f11.params[j]? = some t → args[j]? = some v → Value.okWide Try.prog W .any base t v := hval0
  have hW' := hW
  obtain ⟨p, q, hA0, hV, rfl, hfz, hnd⟩ := hW
  have hA : DataW.TrodAll enc Try.prog W 0 (fun _ => true) true Try.f11.params.toList args.toList ds p := hA0
  rw [Try.params11] at hA hval
  obtain ⟨v0, vs0, d0, ds0, p0, q0, hargs, rfl, rfl, h0, r0⟩ := trodAll_cons hA
  obtain ⟨v1, vs1, d1, ds1, p1, q1, rfl, rfl, rfl, h1, r1⟩ := trodAll_cons r0
  obtain ⟨v2, vs2, d2, ds2, p2, q2, rfl, rfl, rfl, h2, r2⟩ := trodAll_cons r1
  obtain ⟨v3, vs3, d3, ds3, p3, q3, rfl, rfl, rfl, h3, r3⟩ := trodAll_cons r2
  obtain ⟨v4, vs4, d4, ds4, p4, q4, rfl, rfl, rfl, h4, r4⟩ := trodAll_cons r3
  obtain ⟨rfl, rfl, rfl⟩ := trodAll_nil r4
  obtain rfl : args = #[v0, v1, v2, v3, v4] := by cases args; simp_all
  obtain ⟨rfl, rfl⟩ := trodVars_none hV
  have k0 := h0
  have lt0 : ∀ x ∈ p0, x.block < W.heap.size := by obtain ⟨m, hm⟩ := k0; exact DataW.trod_lt m _ _ _ hm
  obtain ⟨N0, A0, rfl, hN0, hq0⟩ := netOf (hval 0 26 v0 rfl rfl) h0
  have k1 := h1
  have lt1 : ∀ x ∈ p1, x.block < W.heap.size := by obtain ⟨m, hm⟩ := k1; exact DataW.trod_lt m _ _ _ hm
  obtain ⟨a1, len1, c1, rfl⟩ := okWide_slice Try.underlying22 (hval 1 22 v1 rfl rfl)
  obtain ⟨l1, rfl, hl1, hL1, hw1⟩ : ∃ l : List Int, len1 = l.length ∧ (l.length : Int) ≤ 9223372036854775807 ∧ Ints 0 W.heap.size W a1 l ∧ ∀ z ∈ l, (Lit.int .i64 z).wf = true := by
    obtain ⟨fuel, hf⟩ := h1
    rcases open_ints Try.underlying22 Try.underlying3 (by kernel_rfl) hf with ⟨hcs, _⟩ | ⟨x, l, c, zs, hcs, _, hl, hm, hz, _, hcell, hwz⟩
    · simp [Value.cells] at hcs
      obtain ⟨rfl, rfl, rfl⟩ := hcs
      exact ints_of (cap := 0) (.inl ⟨rfl, rfl, rfl, rfl⟩)
    · simp [Value.cells] at hcs
      obtain ⟨rfl, rfl, rfl⟩ := hcs
      exact ints_of (.inr ⟨_, rfl, hl, hm, by simpa using hz, hcell, hwz⟩)
  have k2 := h2
  have lt2 : ∀ x ∈ p2, x.block < W.heap.size := by obtain ⟨m, hm⟩ := k2; exact DataW.trod_lt m _ _ _ hm
  obtain ⟨a2, len2, c2, rfl⟩ := okWide_slice Try.underlying22 (hval 2 22 v2 rfl rfl)
  obtain ⟨l2, rfl, hl2, hL2, hw2⟩ : ∃ l : List Int, len2 = l.length ∧ (l.length : Int) ≤ 9223372036854775807 ∧ Ints 0 W.heap.size W a2 l ∧ ∀ z ∈ l, (Lit.int .i64 z).wf = true := by
    obtain ⟨fuel, hf⟩ := h2
    rcases open_ints Try.underlying22 Try.underlying3 (by kernel_rfl) hf with ⟨hcs, _⟩ | ⟨x, l, c, zs, hcs, _, hl, hm, hz, _, hcell, hwz⟩
    · simp [Value.cells] at hcs
      obtain ⟨rfl, rfl, rfl⟩ := hcs
      exact ints_of (cap := 0) (.inl ⟨rfl, rfl, rfl, rfl⟩)
    · simp [Value.cells] at hcs
      obtain ⟨rfl, rfl, rfl⟩ := hcs
      exact ints_of (.inr ⟨_, rfl, hl, hm, by simpa using hz, hcell, hwz⟩)
  have k3 := h3
  have lt3 : ∀ x ∈ p3, x.block < W.heap.size := by obtain ⟨m, hm⟩ := k3; exact DataW.trod_lt m _ _ _ hm
  obtain ⟨a3, len3, c3, rfl⟩ := okWide_slice Try.underlying22 (hval 3 22 v3 rfl rfl)
  obtain ⟨l3, rfl, hl3, hL3, hw3⟩ : ∃ l : List Int, len3 = l.length ∧ (l.length : Int) ≤ 9223372036854775807 ∧ Ints 0 W.heap.size W a3 l ∧ ∀ z ∈ l, (Lit.int .i64 z).wf = true := by
    obtain ⟨fuel, hf⟩ := h3
    rcases open_ints Try.underlying22 Try.underlying3 (by kernel_rfl) hf with ⟨hcs, _⟩ | ⟨x, l, c, zs, hcs, _, hl, hm, hz, _, hcell, hwz⟩
    · simp [Value.cells] at hcs
      obtain ⟨rfl, rfl, rfl⟩ := hcs
      exact ints_of (cap := 0) (.inl ⟨rfl, rfl, rfl, rfl⟩)
    · simp [Value.cells] at hcs
      obtain ⟨rfl, rfl, rfl⟩ := hcs
      exact ints_of (.inr ⟨_, rfl, hl, hm, by simpa using hz, hcell, hwz⟩)
  have k4 := h4
  have lt4 : ∀ x ∈ p4, x.block < W.heap.size := by obtain ⟨m, hm⟩ := k4; exact DataW.trod_lt m _ _ _ hm
  obtain ⟨S4, a4, c4, R4, aw4, cw4, rfl, hS4, hcs4, hsn4, hR4, hrn4⟩ := cyc_of Try.underlying37 (by kernel_rfl) (by kernel_rfl) Try.underlying22 Try.underlying22 Try.underlying3 (by kernel_rfl) (hval 4 37 v4 rfl rfl) h4
  clear hA0 hval0
  refine (walk N0 A0 a1 c1 l1 a2 c2 l2 a3 c3 l3 S4 a4 c4 R4 aw4 cw4 W hN0 hq0 hL1 hl1 hw1 hL2 hl2 hw2 hL3 hl3 hw3 hS4 hcs4 hsn4 hR4 hrn4).mono fun e W' ⟨he, bel⟩ => ?_
  subst he
  exact ⟨_, rfl, _, _, _, [], _, [], hW', trodAll_mk1 (shut_bool Try.underlying4 _), (trodAll_cons_mk (Below.trod laidOut (by kernel_rfl) (of_decide_eq_true (by kernel_rfl)) k0 bel lt0) (trodAll_cons_mk (Below.trod laidOut (by kernel_rfl) (of_decide_eq_true (by kernel_rfl)) k1 bel lt1) (trodAll_cons_mk (Below.trod laidOut (by kernel_rfl) (of_decide_eq_true (by kernel_rfl)) k2 bel lt2) (trodAll_cons_mk (Below.trod laidOut (by kernel_rfl) (of_decide_eq_true (by kernel_rfl)) k3 bel lt3) (trodAll_cons_mk (Below.trod laidOut (by kernel_rfl) (of_decide_eq_true (by kernel_rfl)) k4 bel lt4) trodAll_mk0))))), rfl, bel.frame _, fun h => by cases h⟩

theorem over : Rows.cyclesRawRow.holds Try.pinned (OpenSpec.ofChange Rows.cyclesRawSpec) :=
  OpenClaim.holds_of_wide 11 Try.f11 rfl rfl rfl rfl rfl rfl rfl ⟨rfl, rfl, rfl, rfl, rfl⟩ rfl rfl rfl rfl rfl (by kernel_rfl) Try.func11 (by kernel_rfl)
    (of_decide_eq_true (by kernel_rfl)) (by unfold Func.isWrapper; first | (rw [if_pos (by decide +kernel)]; kernel_rfl) | (rw [if_neg (by decide +kernel)]; exact ⟨rfl, rfl⟩))
    (fun os started H enc _ => lifted os started H enc)

/-- The statement. -/
theorem proved : Rows.CyclesRawSaid := over
end Go.Proofs.Ytdgkaahghlbocaa.cyclesRaw
