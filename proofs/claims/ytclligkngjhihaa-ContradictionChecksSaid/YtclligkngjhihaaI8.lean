/-
  Walks of the functions, printed by a program out of the code and the loops' relations.
-/
import Derived.Test.YtclligkngjhihaaWkD
import Derived.Test.YtclligkngjhihaaProg
import Derived.KernelRfl
import Derived.Test.YtclligkngjhihaaI7
namespace Go.Proofs.Ytclligkngjhihaa
open Go.Wk Go.RowKit
set_option linter.unusedVariables false
set_option linter.unusedSimpArgs false
theorem cl30 : Callable Try.prog 30 := ⟨Try.call30⟩

set_option maxHeartbeats 1000000 in
set_option maxRecDepth 100000 in
theorem law18_ContradictionRaw_ok (N : Net) (A : NetA) (S : List Int) (as_ : Option Addr) (cs : Nat) (rows : List Rw) (aw : Option Addr) (cw : Nat) (bd : Int) (w : World) (hN : NetIn 0 w.heap.size w N A) (hS : Ints 0 w.heap.size w as_ S) (hcs : S.length ≤ cs) (hsn : (S.length : Int) ≤ 9223372036854775807) (hW : WitIn 0 w.heap.size w aw rows) (hwn : (rows.length : Int) ≤ 9223372036854775807)  : Cal Try.prog 10 [netV N A, .agg #[.slice as_ S.length cs, .slice aw rows.length cw], .int .i64 bd] w (fun v w' => v = .bool true ∧ Ext w w') := by
  have hE : Out 0 0 w w := Out.refl _ _ w
  refine enter Try.func10 rfl Try.ntmps10 rfl ?_
  refine wp_seq ?_
  refine rg ?_
  refine sd (d_boxA rfl ?_)
  intro b3 w1 hbb3 hs3 ho2 hb3
  have hz4 := ho2.size
  replace hN := hN.ext ho2
  replace hS := hS.ext ho2
  replace hW := hW.ext ho2
  replace hE := hE.step ho2 (.inl (Nat.le_refl _))
  refine sd (d_boxA rfl ?_)
  intro b4 w5 hbb4 hs7 ho6 hb4
  have hz8 := ho6.size
  replace hN := hN.ext ho6
  replace hS := hS.ext ho6
  replace hW := hW.ext ho6
  replace hE := hE.step ho6 (.inl (Nat.le_refl _))
  replace hb3 := hb3.ext ho6
  refine st (asB rfl) ?_
  refine rg_end ?_
  refine n_then ?_
  refine wp_seq ?_
  refine rg ?_
  refine st (mvI rfl) ?_
  refine sc cl20 (keep_Pick_ok _ _ _ (by omega) (by omega)) rfl ?_
  rintro v13 w9 ⟨rfl, ho10⟩
  have hpk := pick_rng bd 300 (by omega)
  have hz14 := ho10.size
  replace hN := hN.ext ho10
  replace hS := hS.ext ho10
  replace hW := hW.ext ho10
  replace hE := hE.step ho10 (.inl (Nat.le_refl _))
  replace hb3 := hb3.ext ho10
  replace hb4 := hb4.ext ho10
  refine st (y_sub rfl rfl (by omega)) ?_
  refine st (asI rfl) ?_
  refine rg_end ?_
  refine n_then ?_
  refine wp_seq ?_
  refine rgD 16 (fun w_ => Ext w9 w_) (fun i => Nat.beq i 0 || Nat.beq i 4 || Nat.beq i 10 || Nat.beq i 13) mixed (by kernel_rfl) ?_
  intro w15 ho16 hs17
  refine ⟨ho16, ?_⟩
  have hx18 := ho16
  refine tc rfl cl16 (law18_awake_ok _) rfl ?_
  rintro v23 w19 ⟨rfl, ho20⟩
  have hx24 := hx18.step ho20 (.inl (Nat.le_refl _))
  have hz25 := ho20.size
  refine ⟨hx24, ?_⟩
  refine tn rfl (fun _ hG => mvB rfl) ?_
  refine tng rfl rfl rfl rfl (fun _ hG => y_lbN (hb3.ext hG) agg26 rfl) ?_
  refine tng rfl rfl rfl rfl (fun _ hG => mvI rfl) ?_
  refine tcg rfl rfl rfl rfl cl19 (law18_finds_ok _ _ _ _ _ _ (hN.ext hx24)) rfl ?_
  rintro v30 w26 ⟨rfl, ho27⟩
  have hx31 := hx24.step ho27 (.inl (Nat.le_refl _))
  have hz32 := ho27.size
  refine ⟨hx31, ?_⟩
  refine tn rfl (fun _ hG => y_pickT rfl rfl (v := .bool _) rfl) ?_
  refine tn rfl (fun _ hG => mvB rfl) ?_
  refine tng rfl rfl rfl rfl (fun _ hG => y_lbN (hb3.ext hG) agg26 rfl) ?_
  refine tng rfl rfl rfl rfl (fun _ hG => y_lbN (hb4.ext hG) agg46 rfl) ?_
  refine tng rfl rfl rfl rfl (fun _ hG => mvI rfl) ?_
  refine tcg rfl rfl rfl rfl cl30 (law18_checks_ok N A _ _ S _ _ _ _ rows _ _ _ _ _ _ (hN.ext hx31) (hS.ext hx31) hcs hsn (hW.ext hx31) hwn) rfl ?_
  rintro v37 w33 ⟨rfl, ho34⟩
  have hx38 := hx31.step ho34 (.inl (Nat.le_refl _))
  have hz39 := ho34.size
  refine ⟨hx38, ?_⟩
  refine tn rfl (fun _ hG => y_pickT rfl rfl (v := .bool _) rfl) ?_
  refine tn rfl (fun _ hG => mvB rfl) ?_
  refine tcg rfl rfl rfl rfl cl31 (law18_small_ok _) rfl ?_
  rintro v44 w40 ⟨A0, rfl, hN0, ho41⟩
  have hx45 := hx38.step ho41 (.inl (Nat.le_refl _))
  have hz46 := ho41.size
  refine ⟨hx45, ?_⟩
  refine tng rfl rfl rfl rfl (fun _ hG => y_lbN (hb4.ext hG) agg46 rfl) ?_
  refine tng rfl rfl rfl rfl (fun _ hG => mvI rfl) ?_
  refine t_end ?_
  have hz47 := hx45.size
  replace hN := hN.ext hx45
  replace hS := hS.ext hx45
  replace hW := hW.ext hx45
  replace hE := hE.step hx45 (.inl (Nat.le_refl _))
  replace hb3 := hb3.ext hx45
  replace hb4 := hb4.ext hx45
  refine scg rfl rfl rfl cl30 (law18_checks_ok smN A0 _ _ S _ _ _ _ rows _ _ _ _ _ _ hN0 hS hcs hsn hW hwn) rfl ?_
  rintro v52 w48 ⟨rfl, ho49⟩
  have hz53 := ho49.size
  replace hN := hN.ext ho49
  replace hS := hS.ext ho49
  replace hW := hW.ext ho49
  replace hE := hE.step ho49 (.inl (Nat.le_refl _))
  replace hb3 := hb3.ext ho49
  replace hb4 := hb4.ext ho49
  replace hN0 := hN0.ext ho49
  refine st (y_pickT rfl rfl (v := .bool _) rfl) ?_
  refine st (asB rfl) ?_
  refine rg_end ?_
  refine n_then ?_
  refine wp_ret ?_
  refine ret1 (v := (.bool _)) Try.results10 rfl ?_
  exact ⟨rfl, hE⟩
end Go.Proofs.Ytclligkngjhihaa
