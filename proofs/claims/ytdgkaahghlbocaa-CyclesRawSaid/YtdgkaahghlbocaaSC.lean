/-
  Walks of the functions, printed by a program out of the code and the loops' relations.
-/
import Derived.Test.YtdgkaahghlbocaaWkD
import Derived.Test.YtdgkaahghlbocaaProg
import Derived.KernelRfl
import Derived.Test.YtdgkaahghlbocaaSB
import Derived.Test.YtdgkaahghlbocaaIn
namespace Go.Proofs.Ytdgkaahghlbocaa
open Go.Wk Go.RowKit
set_option linter.unusedVariables false
set_option linter.unusedSimpArgs false
theorem cl22 : Callable Try.prog 22 := ⟨Try.call22⟩

set_option maxHeartbeats 2000000 in
set_option maxRecDepth 100000 in
theorem law12_CyclesRaw_ok (N : Net) (A : NetA) (lo hi : Nat) (tree : List Int) (at_ : Option Addr) (at_c at_l at_h : Nat) (vals : List Int) (av_ : Option Addr) (av_c av_l av_h : Nat) (x : List Int) (ax_ : Option Addr) (ax_c ax_l ax_h : Nat) (arcs : List Int) (aa_ : Option Addr) (aa_c aa_l aa_h : Nat) (signs : List Int) (ag_ : Option Addr) (ag_c ag_l ag_h : Nat) (w : World) (hN : NetIn lo hi w N A) (hT : Ints at_l at_h w at_ tree) (hTn : (tree.length : Int) ≤ 9223372036854775807) (hV : Ints av_l av_h w av_ vals) (hVn : (vals.length : Int) ≤ 9223372036854775807) (hX : Ints ax_l ax_h w ax_ x) (hXn : (x.length : Int) ≤ 9223372036854775807) (hA : Ints aa_l aa_h w aa_ arcs) (hAn : (arcs.length : Int) ≤ 9223372036854775807) (hS : Ints ag_l ag_h w ag_ signs) (hSn : (signs.length : Int) ≤ 9223372036854775807) (hca : arcs.length ≤ aa_c) : Cal Try.prog 11 [netV N A, .slice at_ tree.length at_c, .slice av_ vals.length av_c, .slice ax_ x.length ax_c, .agg #[.slice aa_ arcs.length aa_c, .slice ag_ signs.length ag_c]] w (fun v w' => v = .bool true ∧ Ext w w') := by
 replace hN := hN.full
 replace hT := Ints.full hT
 replace hV := Ints.full hV
 replace hX := Ints.full hX
 replace hA := Ints.full hA
 replace hS := Ints.full hS
 have hE : Out 0 0 w w := Out.refl _ _ w
 refine enter Try.func11 rfl Try.ntmps11 rfl ?_
 refine wp_seq ?_
 refine rg ?_
 refine sd (d_boxA rfl ?_)
 intro b5 w1 hbb5 hs3 ho2 hb5
 have hz4 := ho2.size
 replace hN := hN.ext ho2
 replace hT := hT.ext ho2
 replace hV := hV.ext ho2
 replace hX := hX.ext ho2
 replace hA := hA.ext ho2
 replace hS := hS.ext ho2
 replace hE := hE.step ho2 (.inl (Nat.le_refl _))
 refine sd (d_boxA rfl ?_)
 intro b9 w5 hbb9 hs7 ho6 hb9
 have hz8 := ho6.size
 replace hN := hN.ext ho6
 replace hT := hT.ext ho6
 replace hV := hV.ext ho6
 replace hX := hX.ext ho6
 replace hA := hA.ext ho6
 replace hS := hS.ext ho6
 replace hE := hE.step ho6 (.inl (Nat.le_refl _))
 replace hb5 := hb5.ext ho6
 refine st (asB rfl) ?_
 refine rg_end ?_
 refine n_then ?_
 refine wp_seq ?_
 refine rgD 25 (fun w_ => Ext w5 w_) (fun i => Nat.beq i 0 || Nat.beq i 5 || Nat.beq i 12 || Nat.beq i 15 || Nat.beq i 18 || Nat.beq i 21) mixed (by kernel_rfl) ?_
 intro w9 ho10 hs11
 refine ⟨ho10, ?_⟩
 have hx12 := ho10
 refine tc rfl cl19 (law12_awake_ok _) rfl ?_
 rintro v17 w13 ⟨rfl, ho14⟩
 have hx18 := hx12.step ho14 (.inl (Nat.le_refl _))
 have hz19 := ho14.size
 refine ⟨hx18, ?_⟩
 refine tn rfl (fun _ hG => mvB rfl) ?_
 refine tng rfl rfl rfl rfl (fun _ hG => y_lbN (hb5.ext hG) agg26 rfl) ?_
 refine tng rfl rfl rfl rfl (fun _ hG => mvS rfl) ?_
 refine tng rfl rfl rfl rfl (fun _ hG => mvS rfl) ?_
 refine tcg rfl rfl rfl rfl cl36 (law12_forests_ok N A _ _ tree _ _ _ _ vals _ _ _ _ _ (hN.ext hx18) (hT.ext hx18) hTn (hV.ext hx18) hVn) rfl ?_
 rintro v24 w20 ⟨rfl, ho21⟩
 have hx25 := hx18.step ho21 (.inl (Nat.le_refl _))
 have hz26 := ho21.size
 refine ⟨hx25, ?_⟩
 refine tn rfl (fun _ hG => y_pickT rfl rfl (v := .bool _) rfl) ?_
 refine tn rfl (fun _ hG => mvB rfl) ?_
 refine tng rfl rfl rfl rfl (fun _ hG => y_lbN (hb5.ext hG) agg26 rfl) ?_
 refine tng rfl rfl rfl rfl (fun _ hG => y_lbN (hb9.ext hG) agg37 rfl) ?_
 refine tng rfl rfl rfl rfl (fun _ hG => mvS rfl) ?_
 refine tng rfl rfl rfl rfl (fun _ hG => mvS rfl) ?_
 refine tcg rfl rfl rfl rfl cl22 (law12_sums_ok N A _ _ arcs signs _ _ _ _ _ _ _ _ vals _ _ _ _ x _ _ _ _ _ (hN.ext hx25) (hA.ext hx25) hca (hS.ext hx25) hAn (hV.ext hx25) hVn (hX.ext hx25)) rfl ?_
 rintro v31 w27 ⟨rfl, ho28⟩
 have hx32 := hx25.step ho28 (.inl (Nat.le_refl _))
 have hz33 := ho28.size
 refine ⟨hx32, ?_⟩
 refine tn rfl (fun _ hG => y_pickT rfl rfl (v := .bool _) rfl) ?_
 refine tn rfl (fun _ hG => mvB rfl) ?_
 refine tcg rfl rfl rfl rfl cl31 (law12_triangle_ok _) rfl ?_
 rintro v38 w34 ⟨A0, rfl, hN0, ho35⟩
 have hx39 := hx32.step ho35 (.inl (Nat.le_refl _))
 have hz40 := ho35.size
 refine ⟨hx39, ?_⟩
 refine tng rfl rfl rfl rfl (fun _ hG => mvS rfl) ?_
 refine tng rfl rfl rfl rfl (fun _ hG => mvS rfl) ?_
 refine tcg rfl rfl rfl rfl cl36 (law12_forests_ok trN A0 _ _ tree _ _ _ _ vals _ _ _ _ _ hN0 (hT.ext hx39) hTn (hV.ext hx39) hVn) rfl ?_
 rintro v45 w41 ⟨rfl, ho42⟩
 have hx46 := hx39.step ho42 (.inl (Nat.le_refl _))
 have hz47 := ho42.size
 replace hN0 := hN0.ext ho42
 refine ⟨hx46, ?_⟩
 refine tn rfl (fun _ hG => y_pickT rfl rfl (v := .bool _) rfl) ?_
 refine tn rfl (fun _ hG => mvB rfl) ?_
 refine tcg rfl rfl rfl rfl cl31 (law12_triangle_ok _) rfl ?_
 rintro v52 w48 ⟨A1, rfl, hN1, ho49⟩
 have hx53 := hx46.step ho49 (.inl (Nat.le_refl _))
 have hz54 := ho49.size
 replace hN0 := hN0.ext ho49
 refine ⟨hx53, ?_⟩
 refine tng rfl rfl rfl rfl (fun _ hG => y_lbN (hb9.ext hG) agg37 rfl) ?_
 refine tng rfl rfl rfl rfl (fun _ hG => mvS rfl) ?_
 refine tng rfl rfl rfl rfl (fun _ hG => mvS rfl) ?_
 refine t_end ?_
 have hz55 := hx53.size
 replace hN := hN.ext hx53
 replace hT := hT.ext hx53
 replace hV := hV.ext hx53
 replace hX := hX.ext hx53
 replace hA := hA.ext hx53
 replace hS := hS.ext hx53
 replace hE := hE.step hx53 (.inl (Nat.le_refl _))
 replace hb5 := hb5.ext hx53
 replace hb9 := hb9.ext hx53
 refine scg rfl rfl rfl cl22 (law12_sums_ok trN A1 _ _ arcs signs _ _ _ _ _ _ _ _ vals _ _ _ _ x _ _ _ _ _ hN1 hA hca hS hAn hV hVn hX) rfl ?_
 rintro v60 w56 ⟨rfl, ho57⟩
 have hz61 := ho57.size
 replace hN := hN.ext ho57
 replace hT := hT.ext ho57
 replace hV := hV.ext ho57
 replace hX := hX.ext ho57
 replace hA := hA.ext ho57
 replace hS := hS.ext ho57
 replace hE := hE.step ho57 (.inl (Nat.le_refl _))
 replace hb5 := hb5.ext ho57
 replace hb9 := hb9.ext ho57
 replace hN0 := hN0.ext ho57
 replace hN1 := hN1.ext ho57
 refine st (y_pickT rfl rfl (v := .bool _) rfl) ?_
 refine st (asB rfl) ?_
 refine rg_end ?_
 refine n_then ?_
 refine wp_ret ?_
 refine ret1 (v := (.bool _)) Try.results11 rfl ?_
 exact ⟨vb (by simp), hE⟩

open Go.ChangeShapes Go.WideShapes Go.Deep in
theorem cyc_of {H : Type} {enc : TypeId × Value → H} {P : Program} {w : World} {base b0 : Nat} {spare : Nat → Bool} {held : Bool} {r : Reach} {t ei : TypeId} {f0 f1 : Field} {v : Value} {d : DataW H} {p : List MemPlace}
    (hs : P.underlying t = some (.struct #[f0, f1])) (hone : oneCellFields P #[f0, f1] = true) (hC : P.cellsOf t = 2) (h0 : P.underlying f0.type = some (.slice ei)) (h1 : P.underlying f1.type = some (.slice ei)) (h3 : P.underlying ei = some (.int .i64)) (c2 : P.cellsOf ei = 1)
    (hv : Value.okWide P w r b0 t v) (h : DataW.Trod enc P w base spare held t v d p) :
    ∃ (S : List Int) (as_ : Option Addr) (cs : Nat) (R : List Int) (aw : Option Addr) (cw : Nat), v = .agg #[.slice as_ S.length cs, .slice aw R.length cw] ∧ Ints 0 w.heap.size w as_ S ∧ S.length ≤ cs ∧ (S.length : Int) ≤ 9223372036854775807 ∧ Ints 0 w.heap.size w aw R ∧ (R.length : Int) ≤ 9223372036854775807 := by
  obtain ⟨v0, v1, y0, y1, n, rfl, _, _, k0, k1⟩ := Joins.open_agg2 hs hone hC hv h
  have hint : ∀ n cs x, DataW.trod enc P w base spare held n ei cs = some x → ∃ a : Int, cs = Wk.encI a ∧ True := fun n cs x h => by
    obtain ⟨z, hz, _⟩ := DataW.trod_int h3 h
    exact ⟨z, hz, trivial⟩
  obtain ⟨as_, cs, S, e0, n0, s0, _, q0⟩ := sl_of (en := Wk.encI) h0 c2 (by decide) (fun _ => rfl) hint k0
  obtain ⟨aw, cw, R, e1, n1, s1, _, q1⟩ := sl_of (en := Wk.encI) h1 c2 (by decide) (fun _ => rfl) hint k1
  simp at e0 e1
  subst e0 e1
  exact ⟨S, as_, cs, R, aw, cw, rfl, s0, q0, n0, s1, n1⟩
end Go.Proofs.Ytdgkaahghlbocaa
