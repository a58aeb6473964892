/-
  Walks of the functions, printed by a program out of the code and the loops' relations.
-/
import Derived.Test.YtggaekjnpbicnaaWkD
import Derived.Test.YtggaekjnpbicnaaProg
import Derived.KernelRfl
import Derived.Test.YtggaekjnpbicnaaKeep
import Derived.Test.YtggaekjnpbicnaaFw
import Derived.Test.YtggaekjnpbicnaaA1
import Derived.Test.YtggaekjnpbicnaaA2
import Derived.Test.YtggaekjnpbicnaaA3
import Derived.Test.YtggaekjnpbicnaaA4
import Derived.Test.YtggaekjnpbicnaaA5
import Derived.Test.YtggaekjnpbicnaaA6
namespace Go.Proofs.Ytggaekjnpbicnaa
open Go.Wk Go.RowKit
set_option linter.unusedVariables false
set_option linter.unusedSimpArgs false
theorem bld26_0_1_2 (a0 : Int) (d1 : Option Addr) (l1 : Nat) (c1 : Nat) (d2 : Option Addr) (l2 : Nat) (c2 : Nat) (w : World) : (Instr.build 26 [(0, (.int .i64 a0)), (1, (.slice d1 l1 c1)), (2, (.slice d2 l2 c2))].toArray).run Try.prog w = .ok (.agg [(.int .i64 a0), (.slice d1 l1 c1), (.slice d2 l2 c2)].toArray) w := by kernel_rfl
theorem bld40_0_1_2_3_4 (a0 : Int) (a1 : Int) (a2 : Int) (a3 : Int) (a4 : Int) (w : World) : (Instr.build 40 [(0, (.int .i64 a0)), (1, (.int .i64 a1)), (2, (.int .i64 a2)), (3, (.int .i64 a3)), (4, (.int .i64 a4))].toArray).run Try.prog w = .ok (.agg [(.int .i64 a0), (.int .i64 a1), (.int .i64 a2), (.int .i64 a3), (.int .i64 a4), .int .i64 0].toArray) w := by kernel_rfl
theorem bsl22_3 (a0 : Int) (a1 : Int) (a2 : Int) (w : World) : (Instr.buildSlice 22 3 [(0, (.int .i64 a0)), (1, (.int .i64 a1)), (2, (.int .i64 a2))].toArray).run Try.prog w = .ok (.slice (some ⟨w.heap.size, 0, none⟩) 3 3) (w.alloc (.cells [(.int .i64 a0), (.int .i64 a1), (.int .i64 a2)].toArray 3)) := by kernel_rfl
theorem bsl24_2 (a0_0 : Int) (a0_1 : Int) (a0_2 : Int) (a0_3 : Int) (a0_4 : Int) (a0_5 : Int) (a1_0 : Int) (a1_1 : Int) (a1_2 : Int) (a1_3 : Int) (a1_4 : Int) (a1_5 : Int) (w : World) : (Instr.buildSlice 24 2 [(0, (.agg #[(.int .i64 a0_0), (.int .i64 a0_1), (.int .i64 a0_2), (.int .i64 a0_3), (.int .i64 a0_4), (.int .i64 a0_5)])), (1, (.agg #[(.int .i64 a1_0), (.int .i64 a1_1), (.int .i64 a1_2), (.int .i64 a1_3), (.int .i64 a1_4), (.int .i64 a1_5)]))].toArray).run Try.prog w = .ok (.slice (some ⟨w.heap.size, 0, none⟩) 2 2) (w.alloc (.cells [(.int .i64 a0_0), (.int .i64 a0_1), (.int .i64 a0_2), (.int .i64 a0_3), (.int .i64 a0_4), (.int .i64 a0_5), (.int .i64 a1_0), (.int .i64 a1_1), (.int .i64 a1_2), (.int .i64 a1_3), (.int .i64 a1_4), (.int .i64 a1_5)].toArray 40)) := by kernel_rfl
theorem cl11 : Callable Try.prog 11 := ⟨Try.call11⟩
theorem cl12 : Callable Try.prog 12 := ⟨Try.call12⟩
theorem cl14 : Callable Try.prog 14 := ⟨Try.call14⟩
theorem cl15 : Callable Try.prog 15 := ⟨Try.call15⟩
theorem cl19 : Callable Try.prog 19 := ⟨Try.call19⟩
theorem info59 : ∃ i, Try.prog.info? 59 = some i ∧ i.zero = some (.agg #[.int .i64 0, .int .i64 0, .int .i64 0]) ∧ i.size = 3 ∧ i.bytes = 24 := ⟨Try.t59, Try.type59, rfl, rfl, rfl⟩

structure DRes (N : Net) (t : List Int) (i j d : Int) (ok : Bool) (e : Int) : Prop where
  e0 : e = 0
  d0 : 0 ≤ d
  d1 : d ≤ 2026619832316723200
  ch : ok = true → Chain N t i j d
  lst : ∀ q, Chain N t i j q → ok = true ∧ d ≤ q
theorem DistRes.get {N : Net} {t : List Int} {i j d e : Int} {ok : Bool} (h : DistRes N t i j d ok e) (hf : feas N t = true) (i0 : 0 ≤ i) (i1 : i < N.evs.length) (j0 : 0 ≤ j) (j1 : j < N.evs.length) : DRes N t i j d ok e := by
  unfold DistRes at h
  rw [if_neg (by simp [hf]), if_neg (by omega)] at h
  obtain ⟨M, hM, rfl, h | h⟩ := h
  · obtain ⟨h1, rfl, rfl⟩ := h
    refine ⟨rfl, by omega, by omega, (fun h => by cases h), fun q hq => ?_⟩
    exact absurd h1 (hM.least i j q i0 i1 hq).1
  · obtain ⟨h1, rfl, rfl⟩ := h
    rcases hM.snd i j i0 i1 j0 j1 with h2 | ⟨h2, h3⟩
    · exact absurd h2 h1
    · exact ⟨rfl, h2, hM.big i j i0 i1 j0 j1, fun _ => h3, fun q hq => ⟨rfl, (hM.least i j q i0 i1 hq).2⟩⟩
theorem DRes.tri {N : Net} {t : List Int} {i j k a b c e f g : Int} {p q r : Bool} (h1 : DRes N t i j a p e) (h2 : DRes N t j k b q f) (h3 : DRes N t i k c r g) (hp : p = true) (hq : q = true) : r = true ∧ c ≤ a + b :=
  h3.lst _ ((h1.ch hp).trans (h2.ch hq))

def rowNet : Net := ⟨10, [⟨0, 0, 0⟩, ⟨0, 0, 0⟩, ⟨0, 0, 0⟩], [⟨1, 0, 1, 1, 5, 0⟩, ⟨1, 1, 2, 1, 5, 0⟩]⟩
def rowT : List Int := [0, 3, 7]
theorem rowFeas : feas rowNet rowT = true := by decide
theorem row_from {i j q : Int} (h : Chain rowNet rowT i j q) : i = 0 → (j = 1 ∧ q = 2) ∨ (j = 2 ∧ q = 5) := by
  induction h with
  | one ha hk =>
    intro hi
    simp [rowNet] at ha
    rcases ha with rfl | rfl
    · exact .inl ⟨rfl, by decide⟩
    · simp at hi
  | snoc h ha hk ih =>
    intro hi
    simp [rowNet] at ha
    rcases ha with rfl | rfl
    · rcases ih hi with ⟨h1, _⟩ | ⟨h1, _⟩ <;> simp at h1
    · rcases ih hi with ⟨h1, h2⟩ | ⟨h1, _⟩
      · exact .inr ⟨rfl, by rw [h2]; decide⟩
      · simp at h1
theorem row_chain : Chain rowNet rowT 0 2 5 :=
  Chain.snoc (q := 2) (a := ⟨1, 1, 2, 1, 5, 0⟩) (Chain.one (a := ⟨1, 0, 1, 1, 5, 0⟩) (by simp [rowNet]) (by decide)) (by simp [rowNet]) (by decide)
theorem row_dist {d e : Int} {ok : Bool} (h : DistRes rowNet rowT 0 2 d ok e) : d = 5 ∧ ok = true ∧ e = 0 := by
  have := h.get rowFeas (by decide) (by decide) (by decide) (by decide)
  obtain ⟨h1, h2⟩ := this.lst _ row_chain
  rcases row_from (this.ch h1) rfl with ⟨h3, _⟩ | ⟨_, h4⟩
  · simp at h3
  · exact ⟨h4, h1, this.e0⟩

set_option maxRecDepth 100000 in
theorem law22_row_ok (w : World) : Cal Try.prog 19 [] w (fun v w' => ∃ A, v = netV rowNet A ∧ NetIn w.heap.size w'.heap.size w' rowNet A ∧ Ext w w') := by
  have hE : Out 0 0 w w := Out.refl _ _ w
  refine enter Try.func19 rfl Try.ntmps19 rfl ?_
  refine wp_seq ?_
  refine rg ?_
  refine sd (d_allocA zer26 ?_)
  intro b0 w1 hbb0 hs3 ho2 hb0
  have hz4 := ho2.size
  replace hE := hE.step ho2 (.inl (Nat.le_refl _))
  refine rg_end ?_
  refine n_then ?_
  refine wp_seq ?_
  refine rg ?_
  refine sd (d_make (lo := w.heap.size) (enc := encEv) (e0 := (⟨0, 0, 0⟩ : Ev)) sl23 info59 (fun _ => rfl) rfl rfl rfl (by decide) (by decide) (by omega) ?_)
  intro be w5 hbbe hs7 ho6 hev
  have hz9 := ho6.size
  replace hE := hE.step ho6 (.inl (Nat.le_refl _))
  replace hb0 := hb0.ext ho6
  refine st (y_build (bld40_0_1_2_3_4 _ _ _ _ _ _) rfl) ?_
  refine st (y_build (bld40_0_1_2_3_4 _ _ _ _ _ _) rfl) ?_
  refine sd (d_bs (bsl24_2 _ _ _ _ _ _ _ _ _ _ _ _ _) rfl ?_)
  intro ba w10 hbba hs12 ho11 hba
  have hac : Sl encAc 6 ba (ba + 1) w10 (some ⟨ba, 0, none⟩) [(⟨1, 0, 1, 1, 5, 0⟩ : Ac), ⟨1, 1, 2, 1, 5, 0⟩] := Blk.sl (l := [(⟨1, 0, 1, 1, 5, 0⟩ : Ac), ⟨1, 1, 2, 1, 5, 0⟩]) hba (fun _ => rfl) (Nat.le_refl _) (Nat.lt_succ_self _)
  have hz13 := ho11.size
  replace hE := hE.step ho11 (.inl (Nat.le_refl _))
  replace hb0 := hb0.ext ho11
  replace hev := hev.ext ho11
  refine st (y_build (bld26_0_1_2 _ _ _ _ _ _ _ _) rfl) ?_
  refine sd0 (d_stN hb0 rfl rfl sz26 rfl rfl ?_)
  intro w14 hs16 ho15 hb0'
  clear hb0; have hb0 := hb0'; clear hb0'
  have hz17 := ho15.size
  replace hE := hE.step ho15 (by first | omega | (simp only [blk_some, hi1_some] at *; omega))
  have hrnhev := hev.rng
  replace hev := hev.out ho15 (by first | omega | (simp only [blk_some, hi1_some] at *; omega))
  replace hac := hac.out ho15 (by first | omega | (simp only [blk_some, hi1_some] at *; omega))
  refine rg_end ?_
  refine n_then ?_
  refine wp_ret ?_
  refine retC Try.results19 hb0 agg26 rfl ?_
  exact ⟨⟨some ⟨be, 0, none⟩, 3, some ⟨ba, 0, none⟩, 2⟩, rfl, ⟨hev.sl.wide (by omega) (by omega), hac.wide (by omega) (by omega)⟩, hE⟩

set_option maxRecDepth 100000 in
theorem law22_awake_ok (w : World) : Cal Try.prog 15 [] w (fun v w' => v = .bool true ∧ Ext w w') := by
  have hE : Out 0 0 w w := Out.refl _ _ w
  refine enter Try.func15 rfl Try.ntmps15 rfl ?_
  refine wp_seq ?_
  refine rg ?_
  refine st (asB rfl) ?_
  refine rg_end ?_
  refine n_then ?_
  refine wp_seq ?_
  refine rg ?_
  refine sc cl19 (law22_row_ok _) rfl ?_
  rintro v5 w1 ⟨A, rfl, hN, ho2⟩
  have hz6 := ho2.size
  replace hE := hE.step ho2 (.inl (Nat.le_refl _))
  refine sd (d_bs (bsl22_3 _ _ _ _) rfl ?_)
  intro bt w7 hbbt hs9 ho8 hbt
  have hT : Sl encI 1 bt (bt + 1) w7 (some ⟨bt, 0, none⟩) rowT := Blk.sl (l := rowT) hbt (fun _ => rfl) (Nat.le_refl _) (Nat.lt_succ_self _)
  have hz10 := ho8.size
  replace hE := hE.step ho8 (.inl (Nat.le_refl _))
  replace hN := hN.ext ho8
  refine sc cl14 (robust_Distance_ok rowNet A _ _ rowT _ _ _ _ _ _ _ hN hT) rfl ?_
  rintro v15 w11 ⟨d, ok, e, rfl, hres, ho12⟩
  obtain ⟨rfl, rfl, rfl⟩ := row_dist hres
  have hz16 := ho12.size
  replace hE := hE.step ho12 (.inl (Nat.le_refl _))
  replace hN := hN.ext ho12
  replace hT := hT.ext ho12
  refine st (mvT rfl) ?_
  refine st (y_ext rfl rfl) ?_
  refine st (y_ext rfl rfl) ?_
  refine st (y_ext rfl rfl) ?_
  refine st (asI rfl) ?_
  refine st (asB rfl) ?_
  refine st (asI rfl) ?_
  refine rg_end ?_
  refine n_then ?_
  refine wp_seq ?_
  refine rg ?_
  refine st (mvI rfl) ?_
  refine st (y_eql rfl rfl) ?_
  refine st (mvB rfl) ?_
  refine stg rfl rfl rfl (mvB rfl) ?_
  refine st (y_pickT rfl rfl (v := .bool _) rfl) ?_
  refine st (mvB rfl) ?_
  refine stg rfl rfl rfl (mvI rfl) ?_
  refine stg rfl rfl rfl (y_eql rfl rfl) ?_
  refine st (y_pickT rfl rfl (v := .bool _) rfl) ?_
  refine st (asB rfl) ?_
  refine rg_end ?_
  refine n_then ?_
  refine wp_ret ?_
  refine ret1 (v := (.bool _)) Try.results15 rfl ?_
  exact ⟨rfl, hE⟩

set_option maxRecDepth 100000 in
theorem law22_RobustTriangle_ok (a0 : Option Addr) (c0 : Nat) (l0 : List Int) (a1 : Option Addr) (c1 : Nat) (l1 : List Int) (i j k : Int) (w : World) (hL0 : Ints 0 w.heap.size w a0 l0) (hl0 : (l0.length : Int) ≤ 9223372036854775807) (hL1 : Ints 0 w.heap.size w a1 l1) (hl1 : (l1.length : Int) ≤ 9223372036854775807)  : Cal Try.prog 3 [.slice a0 l0.length c0, .slice a1 l1.length c1, .int .i64 i, .int .i64 j, .int .i64 k] w (fun v w' => v = .bool true ∧ Ext w w') := by
  have hE : Out 0 0 w w := Out.refl _ _ w
  refine enter Try.func3 rfl Try.ntmps3 rfl ?_
  refine wp_seq ?_
  refine rg ?_
  refine st (asB rfl) ?_
  refine rg_end ?_
  refine n_then ?_
  refine wp_seq ?_
  refine rg ?_
  refine st (mvS rfl) ?_
  refine sc cl11 (law22_wide_ok _ _ _ _ _ _ hL0 hl0) rfl ?_
  rintro v5 w1 ⟨N, A, rfl, hwd, hN, ho2⟩
  obtain ⟨hok, hp2, hp9, hev1, hev5, hac8, hmnn⟩ := hwd.1
  have hz6 := ho2.size
  replace hL0 := hL0.ext ho2
  replace hL1 := hL1.ext ho2
  replace hE := hE.step ho2 (.inl (Nat.le_refl _))
  refine sd (d_allocA zer26 ?_)
  intro bl10 w7 hbbl10 hs9 ho8 hbl10
  have hz11 := ho8.size
  replace hL0 := hL0.ext ho8
  replace hL1 := hL1.ext ho8
  replace hE := hE.step ho8 (.inl (Nat.le_refl _))
  replace hN := hN.ext ho8
  refine sd0 (d_stN hbl10 rfl rfl sz26 rfl rfl ?_)
  intro w12 hs14 ho13 hbl10'
  clear hbl10; have hbl10 := hbl10'; clear hbl10'
  have hz15 := ho13.size
  replace hL0 := hL0.out ho13 (by first | omega | (simp only [blk_some, hi1_some] at *; omega))
  replace hL1 := hL1.out ho13 (by first | omega | (simp only [blk_some, hi1_some] at *; omega))
  replace hE := hE.step ho13 (by first | omega | (simp only [blk_some, hi1_some] at *; omega))
  replace hN := hN.out ho13 (by first | omega | (simp only [blk_some, hi1_some] at *; omega))
  refine rg_end ?_
  refine n_then ?_
  refine wp_seq ?_
  refine rg ?_
  refine st (y_lbN hbl10 agg26 rfl) ?_
  refine st (mvS rfl) ?_
  refine sc cl12 (keep_Times_ok N A _ _ _ _ _ _ _ _ hN hL1 hl1 (by omega) (by omega)) rfl ?_
  rintro v20 w16 ⟨ax, cx, x, rfl, hT, hxl, hxr, ho17⟩
  obtain ⟨hg, hfe⟩ := wide_feas hwd hxl hxr
  have hz21 := ho17.size
  replace hL0 := hL0.ext ho17
  replace hL1 := hL1.ext ho17
  replace hE := hE.step ho17 (.inl (Nat.le_refl _))
  replace hN := hN.ext ho17
  replace hbl10 := hbl10.ext ho17
  refine st (asS rfl) ?_
  refine rg_end ?_
  refine n_then ?_
  refine wp_seq ?_
  refine rg ?_
  refine st (y_fld fld26_1 rfl) ?_
  refine st (y_lb hbl10 na23 rfl rfl) ?_
  refine st (y_len Try.underlying23 rfl) ?_
  refine st (asI rfl) ?_
  refine rg_end ?_
  refine n_then ?_
  refine wp_seq ?_
  have hi := pick_rng i N.evs.length (by omega)
  have hj := pick_rng j N.evs.length (by omega)
  have hk := pick_rng k N.evs.length (by omega)
  refine rg ?_
  refine st (mvI rfl) ?_
  refine st (mvI rfl) ?_
  refine sc cl13 (keep_Pick_ok _ _ _ (by omega) (by omega)) rfl ?_
  rintro v26 w22 ⟨rfl, ho23⟩
  have hz27 := ho23.size
  replace hL0 := hL0.ext ho23
  replace hL1 := hL1.ext ho23
  replace hE := hE.step ho23 (.inl (Nat.le_refl _))
  replace hN := hN.ext ho23
  replace hbl10 := hbl10.ext ho23
  replace hT := hT.ext ho23
  refine st (mvI rfl) ?_
  refine st (mvI rfl) ?_
  refine sc cl13 (keep_Pick_ok _ _ _ (by omega) (by omega)) rfl ?_
  rintro v32 w28 ⟨rfl, ho29⟩
  have hz33 := ho29.size
  replace hL0 := hL0.ext ho29
  replace hL1 := hL1.ext ho29
  replace hE := hE.step ho29 (.inl (Nat.le_refl _))
  replace hN := hN.ext ho29
  replace hbl10 := hbl10.ext ho29
  replace hT := hT.ext ho29
  refine st (mvI rfl) ?_
  refine st (mvI rfl) ?_
  refine sc cl13 (keep_Pick_ok _ _ _ (by omega) (by omega)) rfl ?_
  rintro v38 w34 ⟨rfl, ho35⟩
  have hz39 := ho35.size
  replace hL0 := hL0.ext ho35
  replace hL1 := hL1.ext ho35
  replace hE := hE.step ho35 (.inl (Nat.le_refl _))
  replace hN := hN.ext ho35
  replace hbl10 := hbl10.ext ho35
  replace hT := hT.ext ho35
  refine st (asI rfl) ?_
  refine st (asI rfl) ?_
  refine st (asI rfl) ?_
  refine rg_end ?_
  refine n_then ?_
  refine wp_seq ?_
  refine rg ?_
  refine st (y_lbN hbl10 agg26 rfl) ?_
  refine st (mvS rfl) ?_
  refine st (mvI rfl) ?_
  refine st (mvI rfl) ?_
  refine sc cl14 (robust_Distance_ok N A _ _ x _ _ _ _ _ _ _ hN hT) rfl ?_
  rintro v44 w40 ⟨a, p, e, rfl, ha, ho41⟩
  replace ha := ha.get hfe hi.1 hi.2 hj.1 hj.2
  obtain rfl := ha.e0
  have ha0 := ha.d0
  have ha1 := ha.d1
  have hz45 := ho41.size
  replace hL0 := hL0.ext ho41
  replace hL1 := hL1.ext ho41
  replace hE := hE.step ho41 (.inl (Nat.le_refl _))
  replace hN := hN.ext ho41
  replace hbl10 := hbl10.ext ho41
  replace hT := hT.ext ho41
  refine st (mvT rfl) ?_
  refine st (y_ext rfl rfl) ?_
  refine st (y_ext rfl rfl) ?_
  refine st (y_ext rfl rfl) ?_
  refine st (asI rfl) ?_
  refine st (asB rfl) ?_
  refine st (asI rfl) ?_
  refine rg_end ?_
  refine n_then ?_
  refine wp_seq ?_
  refine rg ?_
  refine st (y_lbN hbl10 agg26 rfl) ?_
  refine st (mvS rfl) ?_
  refine st (mvI rfl) ?_
  refine st (mvI rfl) ?_
  refine sc cl14 (robust_Distance_ok N A _ _ x _ _ _ _ _ _ _ hN hT) rfl ?_
  rintro v50 w46 ⟨b, q, f, rfl, hb, ho47⟩
  replace hb := hb.get hfe hj.1 hj.2 hk.1 hk.2
  obtain rfl := hb.e0
  have hb0 := hb.d0
  have hb1 := hb.d1
  have hz51 := ho47.size
  replace hL0 := hL0.ext ho47
  replace hL1 := hL1.ext ho47
  replace hE := hE.step ho47 (.inl (Nat.le_refl _))
  replace hN := hN.ext ho47
  replace hbl10 := hbl10.ext ho47
  replace hT := hT.ext ho47
  refine st (mvT rfl) ?_
  refine st (y_ext rfl rfl) ?_
  refine st (y_ext rfl rfl) ?_
  refine st (y_ext rfl rfl) ?_
  refine st (asI rfl) ?_
  refine st (asB rfl) ?_
  refine st (asI rfl) ?_
  refine rg_end ?_
  refine n_then ?_
  refine wp_seq ?_
  refine rg ?_
  refine st (y_lbN hbl10 agg26 rfl) ?_
  refine st (mvS rfl) ?_
  refine st (mvI rfl) ?_
  refine st (mvI rfl) ?_
  refine sc cl14 (robust_Distance_ok N A _ _ x _ _ _ _ _ _ _ hN hT) rfl ?_
  rintro v56 w52 ⟨c, r, g, rfl, hc, ho53⟩
  replace hc := hc.get hfe hi.1 hi.2 hk.1 hk.2
  obtain rfl := hc.e0
  have hc0 := hc.d0
  have hc1 := hc.d1
  have hz57 := ho53.size
  replace hL0 := hL0.ext ho53
  replace hL1 := hL1.ext ho53
  replace hE := hE.step ho53 (.inl (Nat.le_refl _))
  replace hN := hN.ext ho53
  replace hbl10 := hbl10.ext ho53
  replace hT := hT.ext ho53
  refine st (mvT rfl) ?_
  refine st (y_ext rfl rfl) ?_
  refine st (y_ext rfl rfl) ?_
  refine st (y_ext rfl rfl) ?_
  refine st (asI rfl) ?_
  refine st (asB rfl) ?_
  refine st (asI rfl) ?_
  refine rg_end ?_
  refine n_then ?_
  refine wp_seq ?_
  refine rg ?_
  refine sc cl15 (law22_awake_ok _) rfl ?_
  rintro v62 w58 ⟨rfl, ho59⟩
  have hz63 := ho59.size
  replace hL0 := hL0.ext ho59
  replace hL1 := hL1.ext ho59
  replace hE := hE.step ho59 (.inl (Nat.le_refl _))
  replace hN := hN.ext ho59
  replace hbl10 := hbl10.ext ho59
  replace hT := hT.ext ho59
  refine st (mvB rfl) ?_
  refine stg rfl rfl rfl (mvI rfl) ?_
  refine stg rfl rfl rfl (y_eql rfl rfl) ?_
  refine st (y_pickT rfl rfl (v := .bool _) rfl) ?_
  refine st (mvB rfl) ?_
  refine stg rfl rfl rfl (mvI rfl) ?_
  refine stg rfl rfl rfl (y_eql rfl rfl) ?_
  refine st (y_pickT rfl rfl (v := .bool _) rfl) ?_
  refine st (mvB rfl) ?_
  refine stg rfl rfl rfl (mvI rfl) ?_
  refine stg rfl rfl rfl (y_eql rfl rfl) ?_
  refine st (y_pickT rfl rfl (v := .bool _) rfl) ?_
  refine st (mvB rfl) ?_
  refine stg rfl rfl rfl (mvB rfl) ?_
  refine stg rfl rfl rfl (y_not rfl) ?_
  refine stg rfl rfl rfl (mvB rfl) ?_
  refine gspL 83 rfl (fun hg64 => ?_) (fun hg64 => ?_)
  ·
    have hg64n := hg64; try simp only [decide_eq_true_eq, decide_eq_false_iff_not, Bool.not_eq_true', Bool.not_eq_false', Bool.and_eq_true, Bool.or_eq_true, Bool.or_eq_false_iff, Bool.cond_true_right, Bool.cond_false_right, Bool.cond_true_left, Bool.cond_false_left, ne_eq, Decidable.not_not, bne_iff_ne, beq_iff_eq, beq_eq_false_iff_ne, Bool.not_true, Bool.not_false] at hg64n
    refine sts rfl rfl hg64 ?_
    refine sts rfl rfl hg64 ?_
    refine stg rfl rfl rfl (y_pickT rfl hg64 (v := .bool _) rfl) ?_
    refine stg rfl rfl rfl (mvB rfl) ?_
    refine sts rfl rfl rfl ?_
    refine sts rfl rfl rfl ?_
    refine stu rfl rfl ?_
    refine stu rfl rfl ?_
    refine stu rfl rfl ?_
    refine stu rfl rfl ?_
    refine stu rfl rfl ?_
    refine sts rfl rfl rfl ?_
    refine stg rfl rfl rfl (y_pickT rfl rfl (v := .bool _) rfl) ?_
    refine st (y_pickT rfl rfl (v := .bool _) rfl) ?_
    refine st (asB rfl) ?_
    refine rg_end ?_
    refine n_then ?_
    refine wp_ret ?_
    refine ret1 (v := (.bool _)) Try.results3 rfl ?_
    have htri := DRes.tri ha hb hc
    exact ⟨vb (by simp_all), hE⟩
  ·
    have hg64n := hg64; try simp only [decide_eq_true_eq, decide_eq_false_iff_not, Bool.not_eq_true', Bool.not_eq_false', Bool.and_eq_true, Bool.or_eq_true, Bool.or_eq_false_iff, Bool.cond_true_right, Bool.cond_false_right, Bool.cond_true_left, Bool.cond_false_left, ne_eq, Decidable.not_not, bne_iff_ne, beq_iff_eq, beq_eq_false_iff_ne, Bool.not_true, Bool.not_false] at hg64n
    refine stg rfl rfl hg64 (mvB rfl) ?_
    refine stg rfl rfl hg64 (y_not rfl) ?_
    refine stg rfl rfl rfl (y_pickF rfl hg64 (v := .bool _) rfl) ?_
    refine stg rfl rfl rfl (mvB rfl) ?_
    refine gspL 87 rfl (fun hg65 => ?_) (fun hg65 => ?_)
    ·
      have hg65n := hg65; try simp only [decide_eq_true_eq, decide_eq_false_iff_not, Bool.not_eq_true', Bool.not_eq_false', Bool.and_eq_true, Bool.or_eq_true, Bool.or_eq_false_iff, Bool.cond_true_right, Bool.cond_false_right, Bool.cond_true_left, Bool.cond_false_left, ne_eq, Decidable.not_not, bne_iff_ne, beq_iff_eq, beq_eq_false_iff_ne, Bool.not_true, Bool.not_false] at hg65n
      refine sts rfl rfl hg65 ?_
      refine sts rfl rfl hg65 ?_
      refine stu rfl rfl ?_
      refine stu rfl rfl ?_
      refine stu rfl rfl ?_
      refine stu rfl rfl ?_
      refine stu rfl rfl ?_
      refine sts rfl rfl hg65 ?_
      refine stg rfl rfl rfl (y_pickT rfl hg65 (v := .bool _) rfl) ?_
      refine st (y_pickT rfl rfl (v := .bool _) rfl) ?_
      refine st (asB rfl) ?_
      refine rg_end ?_
      refine n_then ?_
      refine wp_ret ?_
      refine ret1 (v := (.bool _)) Try.results3 rfl ?_
      have htri := DRes.tri ha hb hc
      exact ⟨vb (by simp_all), hE⟩
    ·
      have hg65n := hg65; try simp only [decide_eq_true_eq, decide_eq_false_iff_not, Bool.not_eq_true', Bool.not_eq_false', Bool.and_eq_true, Bool.or_eq_true, Bool.or_eq_false_iff, Bool.cond_true_right, Bool.cond_false_right, Bool.cond_true_left, Bool.cond_false_left, ne_eq, Decidable.not_not, bne_iff_ne, beq_iff_eq, beq_eq_false_iff_ne, Bool.not_true, Bool.not_false] at hg65n
      refine stg rfl rfl hg65 (mvB rfl) ?_
      refine stg rfl rfl hg65 (mvB rfl) ?_
      refine gspL 89 rfl (fun hg66 => ?_) (fun hg66 => ?_)
      ·
        have hg66n := hg66; try simp only [decide_eq_true_eq, decide_eq_false_iff_not, Bool.not_eq_true', Bool.not_eq_false', Bool.and_eq_true, Bool.or_eq_true, Bool.or_eq_false_iff, Bool.cond_true_right, Bool.cond_false_right, Bool.cond_true_left, Bool.cond_false_left, ne_eq, Decidable.not_not, bne_iff_ne, beq_iff_eq, beq_eq_false_iff_ne, Bool.not_true, Bool.not_false] at hg66n
        refine stg rfl rfl hg66 (mvI rfl) ?_
        refine stg rfl rfl hg66 (mvI rfl) ?_
        refine stg rfl rfl hg66 (mvI rfl) ?_
        refine stg rfl rfl hg66 (y_add rfl rfl (by omega)) ?_
        refine stg rfl rfl hg66 (y_leq rfl rfl) ?_
        refine stg rfl rfl hg65 (y_pickT rfl hg66 (v := .bool _) rfl) ?_
        refine stg rfl rfl rfl (y_pickF rfl hg65 (v := .bool _) rfl) ?_
        refine st (y_pickT rfl rfl (v := .bool _) rfl) ?_
        refine st (asB rfl) ?_
        refine rg_end ?_
        refine n_then ?_
        refine wp_ret ?_
        refine ret1 (v := (.bool _)) Try.results3 rfl ?_
        have htri := DRes.tri ha hb hc
        exact ⟨vb (by simp_all), hE⟩
      ·
        have hg66n := hg66; try simp only [decide_eq_true_eq, decide_eq_false_iff_not, Bool.not_eq_true', Bool.not_eq_false', Bool.and_eq_true, Bool.or_eq_true, Bool.or_eq_false_iff, Bool.cond_true_right, Bool.cond_false_right, Bool.cond_true_left, Bool.cond_false_left, ne_eq, Decidable.not_not, bne_iff_ne, beq_iff_eq, beq_eq_false_iff_ne, Bool.not_true, Bool.not_false] at hg66n
        refine sts rfl rfl hg66 ?_
        refine sts rfl rfl hg66 ?_
        refine sts rfl rfl hg66 ?_
        refine sts rfl rfl hg66 ?_
        refine sts rfl rfl hg66 ?_
        refine stg rfl rfl hg65 (y_pickF rfl hg66 (v := .bool _) rfl) ?_
        refine stg rfl rfl rfl (y_pickF rfl hg65 (v := .bool _) rfl) ?_
        refine st (y_pickT rfl rfl (v := .bool _) rfl) ?_
        refine st (asB rfl) ?_
        refine rg_end ?_
        refine n_then ?_
        refine wp_ret ?_
        refine ret1 (v := (.bool _)) Try.results3 rfl ?_
        have htri := DRes.tri ha hb hc
        exact ⟨vb (by simp_all), hE⟩
end Go.Proofs.Ytggaekjnpbicnaa
