/-
  Walks of the functions, printed by a program out of the code and the loops' relations.
-/
import Derived.Test.YtggaekjnpbicnaaWkD
import Derived.Test.YtggaekjnpbicnaaProg
import Derived.KernelRfl
import Derived.Test.YtggaekjnpbicnaaA9
import Derived.Test.YtggaekjnpbicnaaB1
namespace Go.Proofs.Ytggaekjnpbicnaa
open Go.Wk Go.RowKit
set_option linter.unusedVariables false
set_option linter.unusedSimpArgs false
theorem cl18 : Callable Try.prog 18 := ⟨Try.call18⟩
theorem cl20 : Callable Try.prog 20 := ⟨Try.call20⟩
theorem cl21 : Callable Try.prog 21 := ⟨Try.call21⟩

theorem chain_ge {N : Net} {t : List Int} (hp : 1 ≤ N.p) {i j q : Int} (h : Chain N t i j q) : 0 ≤ q := by
  induction h with
  | one ha hk => exact (slack_rng hp).1
  | snoc h ha hk ih => rename_i a; have := (slack_rng (N := N) (t := t) (a := a) hp).1; omega
theorem SpreadOk.hold {N : Net} {t : List Int} {ev dl e : Int} {x : List Int} (h : SpreadOk N t ev dl x e) (hN : NetOk N) (hd : 0 ≤ dl) (e0 : 0 ≤ ev) (e1 : ev < N.evs.length) {a : Ac} (ha : a ∈ N.acts) (hk : a.kd ≠ 5) : el x a.fr - slackA N t a ≤ el x a.tt := by
  have ok := hN.acs a ha
  obtain ⟨f0, f1, t0, t1, ne, _, _, _, _, _, _⟩ := ok
  have hs := slack_rng (N := N) (t := t) (a := a) (by have := hN.p2; omega)
  have r1 := h.rng hd e0 e1 f0 f1
  have r2 := h.rng hd e0 e1 t0 t1
  obtain ⟨M, hM, hx⟩ := h.val
  by_cases h1 : a.tt = ev
  · have : el x a.tt = dl := by rw [hx _ t0 t1]; unfold sprd; rw [if_pos h1]
    omega
  · have v2 : el x a.tt = base (M ev a.tt) dl := by rw [hx _ t0 t1]; unfold sprd; rw [if_neg h1]
    by_cases h2 : a.fr = ev
    · have v1 : el x a.fr = dl := by rw [hx _ f0 f1]; unfold sprd; rw [if_pos h2]
      have hc : Chain N t ev a.tt (slackA N t a) := by rw [← h2]; exact .one ha hk
      have hl := hM.least _ _ _ e0 e1 hc
      unfold base at v2
      rw [if_neg hl.1] at v2
      omega
    · have v1 : el x a.fr = base (M ev a.fr) dl := by rw [hx _ f0 f1]; unfold sprd; rw [if_neg h2]
      rcases hM.snd ev a.fr e0 e1 f0 f1 with h3 | ⟨h3, h4⟩
      · unfold base at v1; rw [if_pos h3] at v1; omega
      · have hl := hM.least _ _ _ e0 e1 (Chain.snoc h4 ha hk)
        unfold base at v1 v2
        rw [if_neg (by omega)] at v1
        rw [if_neg hl.1] at v2
        omega
def causeB (N : Net) (t x : List Int) (k : Int) (a : Ac) : Bool := decide (a.kd ≠ 5 ∧ a.tt = k ∧ el x k = el x a.fr - slackA N t a)
theorem SpreadOk.cause {N : Net} {t : List Int} {ev dl e : Int} {x : List Int} (h : SpreadOk N t ev dl x e) (hN : NetOk N) (hd : 0 ≤ dl) (e0 : 0 ≤ ev) (e1 : ev < N.evs.length) {k : Int} (k0 : 0 ≤ k) (k1 : k < N.evs.length) (hne : k ≠ ev) (hz : el x k ≠ 0) : N.acts.any (causeB N t x k) = true := by
  obtain ⟨M, hM, hx⟩ := h.val
  have vk : el x k = base (M ev k) dl := by rw [hx _ k0 k1]; unfold sprd; rw [if_neg hne]
  have hp : 1 ≤ N.p := by have := hN.p2; omega
  have fin : ∀ a ∈ N.acts, a.kd ≠ 5 → a.tt = k → el x k = el x a.fr - slackA N t a → N.acts.any (causeB N t x k) = true := fun a ha h1 h2 h3 =>
    List.any_eq_true.2 ⟨a, ha, by simp only [causeB, decide_eq_true_eq]; exact ⟨h1, h2, h3⟩⟩
  rcases hM.snd ev k e0 e1 k0 k1 with h3 | ⟨h3, h4⟩
  · unfold base at vk; rw [if_pos h3] at vk; exact absurd vk hz
  · unfold base at vk; rw [if_neg (by omega)] at vk
    generalize hm : M ev k = m at *
    cases h4 with
    | @one a ha hk =>
      have v1 : el x a.fr = dl := by rw [hx _ e0 e1]; unfold sprd; rw [if_pos rfl]
      exact fin a ha hk rfl (by omega)
    | @snoc _ q a hc ha hk =>
      have ok := hN.acs a ha
      have hq := chain_ge hp hc
      have hs := slack_rng (N := N) (t := t) (a := a) hp
      by_cases hf : a.fr = ev
      · have v1 : el x a.fr = dl := by rw [hf, hx _ e0 e1]; unfold sprd; rw [if_pos rfl]
        have hl := hM.least ev a.tt (slackA N t a) e0 e1 (by rw [← hf]; exact .one ha hk)
        exact fin a ha hk rfl (by omega)
      · have v1 : el x a.fr = base (M ev a.fr) dl := by rw [hx _ ok.f0 ok.f1]; unfold sprd; rw [if_neg hf]
        have hl := hM.least _ _ _ e0 e1 hc
        rcases hM.snd ev a.fr e0 e1 ok.f0 ok.f1 with h5 | ⟨h5, h6⟩
        · exact absurd h5 hl.1
        · have hl2 := hM.least _ _ _ e0 e1 (Chain.snoc h6 ha hk)
          unfold base at v1
          rw [if_neg hl.1] at v1
          exact fin a ha hk rfl (by omega)
theorem take_any_succ {α : Type} [Inhabited α] {l : List α} {q : α → Bool} {k : Nat} (hk : (k : Int) < l.length) : (l.take (k + 1)).any q = ((l.take k).any q || q (el l k)) := by
  have hk' : k < l.length := by omega
  rw [List.take_succ_eq_append_getElem hk', List.any_append]
  have : el l (k : Int) = l[k] := by simp [el, hk']
  simp [← this]
theorem any_take_len {α : Type} {l : List α} {q : α → Bool} {k : Nat} (hk : ¬ (k : Int) < l.length) : (l.take k).any q = l.any q := by
  rw [List.take_of_length_le (by omega)]
theorem row_lt {i j q : Int} (h : Chain rowNet rowT i j q) : i < j := by
  induction h with
  | one ha hk =>
    simp [rowNet] at ha
    rcases ha with rfl | rfl <;> decide
  | snoc h ha hk ih =>
    simp [rowNet] at ha
    rcases ha with rfl | rfl <;> (simp at ih ⊢; omega)
theorem row_loop {d : Int} {ok : Bool} {e : Int} (h : LoopRes rowNet rowT d ok e) : ok = false ∧ e = 0 := by
  unfold LoopRes at h
  rw [if_neg (by simp [rowFeas])] at h
  rcases h.2 with ⟨h1, _, _⟩ | ⟨_, ⟨i, _, _, hi⟩, _⟩
  · exact ⟨h1, h.1⟩
  · have := row_lt hi; omega
theorem row_spread {x : List Int} {e : Int} (h : SpreadRes rowNet rowT 0 4 x e) : x = [4, 2, 0] ∧ e = 0 := by
  have h := h.get rowFeas (by decide)
  obtain ⟨M, hM, hx⟩ := h.val
  have hl := h.len
  have m1 : M 0 1 = 2 := by
    have hc : Chain rowNet rowT 0 1 2 := Chain.one (a := ⟨1, 0, 1, 1, 5, 0⟩) (by simp [rowNet]) (by decide)
    have := hM.least 0 1 2 (by decide) (by decide) hc
    rcases hM.snd 0 1 (by decide) (by decide) (by decide) (by decide) with h1 | ⟨_, h1⟩
    · exact absurd h1 this.1
    · rcases row_from h1 rfl with ⟨_, h2⟩ | ⟨h2, _⟩
      · exact h2
      · simp at h2
  have m2 : M 0 2 = 5 := by
    have := hM.least 0 2 5 (by decide) (by decide) row_chain
    rcases hM.snd 0 2 (by decide) (by decide) (by decide) (by decide) with h1 | ⟨_, h1⟩
    · exact absurd h1 this.1
    · rcases row_from h1 rfl with ⟨h2, _⟩ | ⟨_, h2⟩
      · simp at h2
      · exact h2
  refine ⟨list_ext_el hl fun q hq => ?_, h.e0⟩
  have hq3 : q < 3 := by rw [hl] at hq; exact hq
  rw [hx q (by omega) (by rw [hl] at hq; omega)]
  have : q = 0 ∨ q = 1 ∨ q = 2 := by omega
  rcases this with rfl | rfl | rfl
  · rfl
  · show (if ((1 : Nat) : Int) = 0 then 4 else base (M 0 1) 4) = 2
    rw [m1]; rfl
  · show (if ((2 : Nat) : Int) = 0 then 4 else base (M 0 2) 4) = 0
    rw [m2]; rfl
theorem row_cush {d e : Int} (h : CushRes rowNet rowT 1 d e) : d = 3 ∧ e = 0 := by
  unfold CushRes at h
  rw [if_neg (by simp [rowFeas]), if_neg (by decide)] at h
  refine ⟨h.1.trans ?_, h.2⟩
  decide

set_option maxRecDepth 100000 in
theorem law22_RobustExamples_ok (w : World) : Cal Try.prog 8 [] w (fun v w' => v = .bool true ∧ Ext w w') := by
  have hE : Out 0 0 w w := Out.refl _ _ w
  refine enter Try.func8 rfl Try.ntmps8 rfl ?_
  refine wp_seq ?_
  refine rg ?_
  refine st (asB rfl) ?_
  refine rg_end ?_
  refine n_then ?_
  refine wp_seq ?_
  refine rg ?_
  refine sc cl19 (law22_row_ok _) rfl ?_
  rintro v5 w1 ⟨A1, rfl, hN1, ho2⟩
  have hz6 := ho2.size
  replace hE := hE.step ho2 (.inl (Nat.le_refl _))
  refine sd (d_bs (bsl22_3 _ _ _ _) rfl ?_)
  intro bt1 w7 hbbt1 hs9 ho8 hbt1
  have hT1 : Sl encI 1 bt1 (bt1 + 1) w7 (some ⟨bt1, 0, none⟩) rowT := Blk.sl (l := rowT) hbt1 (fun _ => rfl) (Nat.le_refl _) (Nat.lt_succ_self _)
  have hz10 := ho8.size
  replace hE := hE.step ho8 (.inl (Nat.le_refl _))
  replace hN1 := hN1.ext ho8
  refine sc cl17 (robust_Spread_ok rowNet A1 _ _ rowT _ _ _ _ _ _ _ hN1 hT1) rfl ?_
  rintro v15 w11 ⟨ad, c, x, e, rfl, hs, hS, ho12⟩
  obtain ⟨rfl, rfl⟩ := row_spread hs
  have hz16 := ho12.size
  replace hE := hE.step ho12 (.inl (Nat.le_refl _))
  replace hN1 := hN1.ext ho12
  replace hT1 := hT1.ext ho12
  refine st (mvT rfl) ?_
  refine st (y_ext rfl rfl) ?_
  refine st (y_ext rfl rfl) ?_
  refine st (asS rfl) ?_
  refine st (asI rfl) ?_
  refine rg_end ?_
  refine n_then ?_
  refine wp_seq ?_
  refine rg ?_
  refine sc cl19 (law22_row_ok _) rfl ?_
  rintro v21 w17 ⟨A2, rfl, hN2, ho18⟩
  have hz22 := ho18.size
  replace hE := hE.step ho18 (.inl (Nat.le_refl _))
  replace hN1 := hN1.ext ho18
  replace hT1 := hT1.ext ho18
  replace hS := hS.ext ho18
  refine sd (d_bs (bsl22_3 _ _ _ _) rfl ?_)
  intro bt2 w23 hbbt2 hs25 ho24 hbt2
  have hT2 : Sl encI 1 bt2 (bt2 + 1) w23 (some ⟨bt2, 0, none⟩) rowT := Blk.sl (l := rowT) hbt2 (fun _ => rfl) (Nat.le_refl _) (Nat.lt_succ_self _)
  have hz26 := ho24.size
  replace hE := hE.step ho24 (.inl (Nat.le_refl _))
  replace hN1 := hN1.ext ho24
  replace hT1 := hT1.ext ho24
  replace hS := hS.ext ho24
  replace hN2 := hN2.ext ho24
  refine sc cl20 (robust_Cushion_ok rowNet A2 _ _ rowT _ _ _ _ _ _ hN2 hT2) rfl ?_
  rintro v31 w27 ⟨d2, e2, rfl, hcu, ho28⟩
  obtain ⟨rfl, rfl⟩ := row_cush hcu
  have hz32 := ho28.size
  replace hE := hE.step ho28 (.inl (Nat.le_refl _))
  replace hN1 := hN1.ext ho28
  replace hT1 := hT1.ext ho28
  replace hS := hS.ext ho28
  replace hN2 := hN2.ext ho28
  replace hT2 := hT2.ext ho28
  refine st (mvT rfl) ?_
  refine st (y_ext rfl rfl) ?_
  refine st (y_ext rfl rfl) ?_
  refine st (asI rfl) ?_
  refine st (asI rfl) ?_
  refine rg_end ?_
  refine n_then ?_
  refine wp_seq ?_
  refine rg ?_
  refine sc cl19 (law22_row_ok _) rfl ?_
  rintro v37 w33 ⟨A3, rfl, hN3, ho34⟩
  have hz38 := ho34.size
  replace hE := hE.step ho34 (.inl (Nat.le_refl _))
  replace hN1 := hN1.ext ho34
  replace hT1 := hT1.ext ho34
  replace hS := hS.ext ho34
  replace hN2 := hN2.ext ho34
  replace hT2 := hT2.ext ho34
  refine sd (d_bs (bsl22_3 _ _ _ _) rfl ?_)
  intro bt3 w39 hbbt3 hs41 ho40 hbt3
  have hT3 : Sl encI 1 bt3 (bt3 + 1) w39 (some ⟨bt3, 0, none⟩) rowT := Blk.sl (l := rowT) hbt3 (fun _ => rfl) (Nat.le_refl _) (Nat.lt_succ_self _)
  have hz42 := ho40.size
  replace hE := hE.step ho40 (.inl (Nat.le_refl _))
  replace hN1 := hN1.ext ho40
  replace hT1 := hT1.ext ho40
  replace hS := hS.ext ho40
  replace hN2 := hN2.ext ho40
  replace hT2 := hT2.ext ho40
  replace hN3 := hN3.ext ho40
  refine sc cl16 (robust_Loop_ok rowNet A3 _ _ rowT _ _ _ _ _ hN3 hT3) rfl ?_
  rintro v47 w43 ⟨d3, ok3, e3, rfl, hlo, ho44⟩
  obtain ⟨rfl, rfl⟩ := row_loop hlo
  have hz48 := ho44.size
  replace hE := hE.step ho44 (.inl (Nat.le_refl _))
  replace hN1 := hN1.ext ho44
  replace hT1 := hT1.ext ho44
  replace hS := hS.ext ho44
  replace hN2 := hN2.ext ho44
  replace hT2 := hT2.ext ho44
  replace hN3 := hN3.ext ho44
  replace hT3 := hT3.ext ho44
  refine st (mvT rfl) ?_
  refine st (y_ext rfl rfl) ?_
  refine st (y_ext rfl rfl) ?_
  refine st (y_ext rfl rfl) ?_
  refine st (asI rfl) ?_
  refine st (asB rfl) ?_
  refine st (asI rfl) ?_
  refine rg_end ?_
  refine n_then ?_
  refine wp_seq ?_
  refine rg ?_
  refine st (mvI rfl) ?_
  refine st (y_eql rfl rfl) ?_
  refine st (mvB rfl) ?_
  refine stg rfl rfl rfl (mvI rfl) ?_
  refine stg rfl rfl rfl (y_eql rfl rfl) ?_
  refine st (y_pickT rfl rfl (v := .bool _) rfl) ?_
  refine st (mvB rfl) ?_
  refine stg rfl rfl rfl (mvI rfl) ?_
  refine stg rfl rfl rfl (y_eql rfl rfl) ?_
  refine st (y_pickT rfl rfl (v := .bool _) rfl) ?_
  refine st (mvB rfl) ?_
  refine stg rfl rfl rfl (mvS rfl) ?_
  refine sdg rfl rfl rfl (d_bs (bsl22_3 _ _ _ _) rfl ?_)
  intro bq w49 hbbq hs51 ho50 hbq
  have hQ : Sl encI 1 bq (bq + 1) w49 (some ⟨bq, 0, none⟩) [4, 2, 0] := Blk.sl (l := [4, 2, 0]) hbq (fun _ => rfl) (Nat.le_refl _) (Nat.lt_succ_self _)
  have hz52 := ho50.size
  replace hE := hE.step ho50 (.inl (Nat.le_refl _))
  replace hN1 := hN1.ext ho50
  replace hT1 := hT1.ext ho50
  replace hS := hS.ext ho50
  replace hN2 := hN2.ext ho50
  replace hT2 := hT2.ext ho50
  replace hN3 := hN3.ext ho50
  replace hT3 := hT3.ext ho50
  refine scg rfl rfl rfl cl21 (keep_Same_int_ok [4, 2, 0] [4, 2, 0] _ _ _ _ _ _ _ _ _ hS hQ (by decide)) rfl ?_
  rintro v57 w53 ⟨rfl, ho54⟩
  have hz58 := ho54.size
  replace hE := hE.step ho54 (.inl (Nat.le_refl _))
  replace hN1 := hN1.ext ho54
  replace hT1 := hT1.ext ho54
  replace hS := hS.ext ho54
  replace hN2 := hN2.ext ho54
  replace hT2 := hT2.ext ho54
  replace hN3 := hN3.ext ho54
  replace hT3 := hT3.ext ho54
  replace hQ := hQ.ext ho54
  refine st (y_pickT rfl rfl (v := .bool _) rfl) ?_
  refine st (mvB rfl) ?_
  refine stg rfl rfl (by decide) (mvI rfl) ?_
  refine stg rfl rfl (by decide) (y_eql rfl rfl) ?_
  refine st (y_pickT rfl (by decide) (v := .bool _) rfl) ?_
  refine st (mvB rfl) ?_
  refine stg rfl rfl rfl (mvB rfl) ?_
  refine stg rfl rfl rfl (y_not rfl) ?_
  refine st (y_pickT rfl rfl (v := .bool _) rfl) ?_
  refine st (asB rfl) ?_
  refine rg_end ?_
  refine n_then ?_
  refine wp_ret ?_
  refine ret1 (v := (.bool _)) Try.results8 rfl ?_
  exact ⟨rfl, hE⟩

set_option maxRecDepth 100000 in
theorem law22_RobustDelaysHold_ok (a0 : Option Addr) (c0 : Nat) (l0 : List Int) (a1 : Option Addr) (c1 : Nat) (l1 : List Int) (ev dl : Int) (w : World) (hL0 : Ints 0 w.heap.size w a0 l0) (hl0 : (l0.length : Int) ≤ 9223372036854775807) (hL1 : Ints 0 w.heap.size w a1 l1) (hl1 : (l1.length : Int) ≤ 9223372036854775807)  : Cal Try.prog 5 [.slice a0 l0.length c0, .slice a1 l1.length c1, .int .i64 ev, .int .i64 dl] w (fun v w' => v = .bool true ∧ Ext w w') := by
  have hE : Out 0 0 w w := Out.refl _ _ w
  refine enter Try.func5 rfl Try.ntmps5 rfl ?_
  refine wp_seq ?_
  refine rg ?_
  refine st (asB rfl) ?_
  refine rg_end ?_
  refine n_then ?_
  refine wp_seq ?_
  refine rg ?_
  refine st (mvS rfl) ?_
  refine sc cl11 (law22_wide_ok _ _ _ _ _ _ hL0 hl0) rfl ?_
  rintro v5 w1 ⟨N, A, rfl, hwd, hN, ho2⟩
  obtain ⟨hok, hp2, hp9, hev1, hev5, hac8, hmnn⟩ := hwd.1
  have hz6 := ho2.size
  replace hL0 := hL0.ext ho2
  replace hL1 := hL1.ext ho2
  replace hE := hE.step ho2 (.inl (Nat.le_refl _))
  refine sd (d_allocA zer26 ?_)
  intro bl10 w7 hbbl10 hs9 ho8 hbl10
  have hz11 := ho8.size
  replace hL0 := hL0.ext ho8
  replace hL1 := hL1.ext ho8
  replace hE := hE.step ho8 (.inl (Nat.le_refl _))
  replace hN := hN.ext ho8
  refine sd0 (d_stN hbl10 rfl rfl sz26 rfl rfl ?_)
  intro w12 hs14 ho13 hbl10'
  clear hbl10; have hbl10 := hbl10'; clear hbl10'
  have hz15 := ho13.size
  replace hL0 := hL0.out ho13 (by first | omega | (simp only [blk_some, hi1_some] at *; omega))
  replace hL1 := hL1.out ho13 (by first | omega | (simp only [blk_some, hi1_some] at *; omega))
  replace hE := hE.step ho13 (by first | omega | (simp only [blk_some, hi1_some] at *; omega))
  replace hN := hN.out ho13 (by first | omega | (simp only [blk_some, hi1_some] at *; omega))
  refine rg_end ?_
  refine n_then ?_
  refine wp_seq ?_
  refine rg ?_
  refine st (y_lbN hbl10 agg26 rfl) ?_
  refine st (mvS rfl) ?_
  refine sc cl12 (keep_Times_ok N A _ _ _ _ _ _ _ _ hN hL1 hl1 (by omega) (by omega)) rfl ?_
  rintro v20 w16 ⟨ax, cx, x, rfl, hT, hxl, hxr, ho17⟩
  obtain ⟨hg, hfe⟩ := wide_feas hwd hxl hxr
  have hz21 := ho17.size
  replace hL0 := hL0.ext ho17
  replace hL1 := hL1.ext ho17
  replace hE := hE.step ho17 (.inl (Nat.le_refl _))
  replace hN := hN.ext ho17
  replace hbl10 := hbl10.ext ho17
  refine st (asS rfl) ?_
  refine rg_end ?_
  refine n_then ?_
  refine wp_seq ?_
  have hev := pick_rng ev N.evs.length (by omega)
  have hdl := pick_rng dl 60 (by omega)
  refine rg ?_
  refine st (mvI rfl) ?_
  refine st (y_fld fld26_1 rfl) ?_
  refine st (y_lb hbl10 na23 rfl rfl) ?_
  refine st (y_len Try.underlying23 rfl) ?_
  refine sc cl13 (keep_Pick_ok _ _ _ (by omega) (by omega)) rfl ?_
  rintro v26 w22 ⟨rfl, ho23⟩
  have hz27 := ho23.size
  replace hL0 := hL0.ext ho23
  replace hL1 := hL1.ext ho23
  replace hE := hE.step ho23 (.inl (Nat.le_refl _))
  replace hN := hN.ext ho23
  replace hbl10 := hbl10.ext ho23
  replace hT := hT.ext ho23
  refine st (mvI rfl) ?_
  refine sc cl13 (keep_Pick_ok _ _ _ (by omega) (by omega)) rfl ?_
  rintro v32 w28 ⟨rfl, ho29⟩
  have hz33 := ho29.size
  replace hL0 := hL0.ext ho29
  replace hL1 := hL1.ext ho29
  replace hE := hE.step ho29 (.inl (Nat.le_refl _))
  replace hN := hN.ext ho29
  replace hbl10 := hbl10.ext ho29
  replace hT := hT.ext ho29
  refine st (asI rfl) ?_
  refine st (asI rfl) ?_
  refine rg_end ?_
  refine n_then ?_
  refine wp_seq ?_
  refine rg ?_
  refine st (y_lbN hbl10 agg26 rfl) ?_
  refine st (mvS rfl) ?_
  refine st (mvI rfl) ?_
  refine st (mvI rfl) ?_
  refine sc cl17 (robust_Spread_ok N A _ _ x _ _ _ _ _ _ _ hN hT) rfl ?_
  rintro v38 w34 ⟨ady, cy, y, e, rfl, hy, hSy, ho35⟩
  replace hy := hy.get hfe (by omega)
  obtain rfl := hy.e0
  have hyl := hy.len
  have hz39 := ho35.size
  replace hL0 := hL0.ext ho35
  replace hL1 := hL1.ext ho35
  replace hE := hE.step ho35 (.inl (Nat.le_refl _))
  replace hN := hN.ext ho35
  replace hbl10 := hbl10.ext ho35
  replace hT := hT.ext ho35
  refine st (mvT rfl) ?_
  refine st (y_ext rfl rfl) ?_
  refine st (y_ext rfl rfl) ?_
  refine st (asS rfl) ?_
  refine st (asI rfl) ?_
  refine rg_end ?_
  refine n_then ?_
  refine wp_seq ?_
  refine wp_seq ?_
  refine rg ?_
  refine st (mvI rfl) ?_
  refine st (y_neq rfl rfl) ?_
  refine st (mvB rfl) ?_
  refine stg rfl rfl rfl (mvS rfl) ?_
  refine stg rfl rfl rfl (y_len Try.underlying22 rfl) ?_
  refine stg rfl rfl rfl (y_fld fld26_1 rfl) ?_
  refine stg rfl rfl rfl (y_lb hbl10 na23 rfl rfl) ?_
  refine stg rfl rfl rfl (y_len Try.underlying23 rfl) ?_
  refine stg rfl rfl rfl (y_neq rfl rfl) ?_
  refine st (y_pickF rfl rfl (v := .bool _) rfl) ?_
  refine st (mvB rfl) ?_
  refine gspL 45 rfl (fun hg40 => ?_) (fun hg40 => ?_)
  ·
    have hg40n := hg40; try simp only [decide_eq_true_eq, decide_eq_false_iff_not, Bool.not_eq_true', Bool.not_eq_false', Bool.and_eq_true, Bool.or_eq_true, Bool.or_eq_false_iff, Bool.cond_true_right, Bool.cond_false_right, Bool.cond_true_left, Bool.cond_false_left, ne_eq, Decidable.not_not, bne_iff_ne, beq_iff_eq, beq_eq_false_iff_ne, Bool.not_true, Bool.not_false] at hg40n
    exfalso; omega
  ·
    have hg40n := hg40; try simp only [decide_eq_true_eq, decide_eq_false_iff_not, Bool.not_eq_true', Bool.not_eq_false', Bool.and_eq_true, Bool.or_eq_true, Bool.or_eq_false_iff, Bool.cond_true_right, Bool.cond_false_right, Bool.cond_true_left, Bool.cond_false_left, ne_eq, Decidable.not_not, bne_iff_ne, beq_iff_eq, beq_eq_false_iff_ne, Bool.not_true, Bool.not_false] at hg40n
    refine stg rfl rfl hg40 (mvS rfl) ?_
    refine stg rfl rfl hg40 (mvI rfl) ?_
    refine stg rfl rfl hg40 (y_ix hSy sl22 rfl (rfl) rfl (by omega) (by omega)) ?_
    refine stg rfl rfl hg40 (y_le hSy na3 rfl (by omega) (by omega) rfl) ?_
    refine stg rfl rfl hg40 (mvI rfl) ?_
    refine stg rfl rfl hg40 (y_neq rfl rfl) ?_
    refine st (y_pickF rfl hg40 (v := .bool _) rfl) ?_
    refine rg_end ?_
    refine n_then ?_
    refine cnd rfl (fun hc0 => ?_) (fun hc0 => ?_)
    ·
      try simp only [decide_eq_true_eq, decide_eq_false_iff_not, Bool.not_eq_true', Bool.not_eq_false', Bool.and_eq_true, Bool.or_eq_true, Bool.or_eq_false_iff, Bool.cond_true_right, Bool.cond_false_right, Bool.cond_true_left, Bool.cond_false_left, ne_eq, Decidable.not_not, bne_iff_ne, beq_iff_eq, beq_eq_false_iff_ne, Bool.not_true, Bool.not_false] at hc0
      obtain ⟨M, hM, hv⟩ := hy.val
      have := hv (pick ev N.evs.length) hev.1 hev.2
      unfold sprd at this
      rw [if_pos rfl] at this
      exact absurd this hc0
    ·
      try simp only [decide_eq_true_eq, decide_eq_false_iff_not, Bool.not_eq_true', Bool.not_eq_false', Bool.and_eq_true, Bool.or_eq_true, Bool.or_eq_false_iff, Bool.cond_true_right, Bool.cond_false_right, Bool.cond_true_left, Bool.cond_false_left, ne_eq, Decidable.not_not, bne_iff_ne, beq_iff_eq, beq_eq_false_iff_ne, Bool.not_true, Bool.not_false] at hc0
      refine wp_skip ?_
      refine n_then ?_
      refine wp_seq ?_
      refine wp_seq ?_
      refine rg ?_
      refine st (y_fld fld26_2 rfl) ?_
      refine st (y_lb hbl10 na24 rfl rfl) ?_
      refine st (y_len Try.underlying24 rfl) ?_
      refine st (mvI rfl) ?_
      refine rg_end ?_
      refine n_then ?_
      refine wp_block ?_
      refine lp (γ := Nat) [8, 13, 14, 56, 57, 58, 59, 60, 61, 62, 63, 64, 65, 66, 67, 68, 69, 70, 71, 72, 73, 74, 75, 76, 77, 78, 79, 80, 81, 82, 83, 84, 85, 86, 87, 88, 89, 90, 91, 92, 93, 94, 95, 96] (fun k => [(56, .int .i64 (k : Int))]) (fun k w_ => Ext w34 w_ ∧ (k : Int) ≤ N.acts.length) (fun k => N.acts.length - k) 0 ⟨rfl, trivial⟩ ⟨Out.refl _ _ _, by omega⟩ ?_
      rintro k hav_ w41 ⟨ho42, hk⟩
      have hlp0 := ho42
      have hz43 := ho42.size
      replace hL0 := hL0.ext ho42
      replace hL1 := hL1.ext ho42
      replace hE := hE.step ho42 (.inl (Nat.le_refl _))
      replace hN := hN.ext ho42
      replace hbl10 := hbl10.ext ho42
      replace hT := hT.ext ho42
      replace hSy := hSy.ext ho42
      refine wp_seq ?_
      refine rg ?_
      refine st (y_lss rfl rfl) ?_
      refine rg_end ?_
      refine n_then ?_
      refine wp_seq ?_
      refine cnd rfl (fun hc1 => ?_) (fun hc1 => ?_)
      ·
        try simp only [decide_eq_true_eq, decide_eq_false_iff_not, Bool.not_eq_true', Bool.not_eq_false', Bool.and_eq_true, Bool.or_eq_true, Bool.or_eq_false_iff, Bool.cond_true_right, Bool.cond_false_right, Bool.cond_true_left, Bool.cond_false_left, ne_eq, Decidable.not_not, bne_iff_ne, beq_iff_eq, beq_eq_false_iff_ne, Bool.not_true, Bool.not_false] at hc1
        have ham := el_mem (l := N.acts) (i := k) (by omega) hc1
        obtain ⟨f0, f1, t0, t1, hne, hm0, hm1, hm2, hm3, _, _⟩ := hok.acs _ ham
        have hs := slack_rng (N := N) (t := x) (a := el N.acts k) (by omega)
        have hr1 := hy.rng hdl.1 hev.1 hev.2 f0 f1
        have hr2 := hy.rng hdl.1 hev.1 hev.2 t0 t1
        refine wp_skip ?_
        refine n_then ?_
        refine wp_seq ?_
        refine wp_block ?_
        refine wp_seq ?_
        refine rg ?_
        refine st (mvI rfl) ?_
        refine st (asI rfl) ?_
        refine rg_end ?_
        refine n_then ?_
        refine wp_seq ?_
        refine rg ?_
        refine st (y_fld fld26_2 rfl) ?_
        refine st (y_lb hbl10 na24 rfl rfl) ?_
        refine st (mvI rfl) ?_
        refine st (y_ix hN.a sl24 rfl (rfl) rfl (by omega) (by omega)) ?_
        refine st (y_lw hN.a agg40 rfl (by omega) (by omega)) ?_
        refine sd (d_allocA zer40 ?_)
        intro bl47 w44 hbbl47 hs46 ho45 hbl47
        have hz48 := ho45.size
        replace hL0 := hL0.ext ho45
        replace hL1 := hL1.ext ho45
        replace hE := hE.step ho45 (.inl (Nat.le_refl _))
        replace hN := hN.ext ho45
        replace hbl10 := hbl10.ext ho45
        replace hT := hT.ext ho45
        replace hSy := hSy.ext ho45
        replace hlp0 := hlp0.step ho45 (.inl (Nat.le_refl _))
        refine sd0 (d_stN hbl47 rfl rfl sz40 rfl rfl ?_)
        intro w49 hs51 ho50 hbl47'
        clear hbl47; have hbl47 := hbl47'; clear hbl47'
        have hz52 := ho50.size
        replace hL0 := hL0.out ho50 (by first | omega | (simp only [blk_some, hi1_some] at *; omega))
        replace hL1 := hL1.out ho50 (by first | omega | (simp only [blk_some, hi1_some] at *; omega))
        replace hE := hE.step ho50 (by first | omega | (simp only [blk_some, hi1_some] at *; omega))
        replace hN := hN.out ho50 (by first | omega | (simp only [blk_some, hi1_some] at *; omega))
        replace hbl10 := hbl10.out ho50 (by first | omega | (simp only [blk_some, hi1_some] at *; omega))
        replace hT := hT.out ho50 (by first | omega | (simp only [blk_some, hi1_some] at *; omega))
        replace hSy := hSy.out ho50 (by first | omega | (simp only [blk_some, hi1_some] at *; omega))
        replace hlp0 := hlp0.step ho50 (by first | omega | (simp only [blk_some, hi1_some] at *; omega))
        refine rg_end ?_
        refine n_then ?_
        refine wp_seq ?_
        refine rgD 28 (fun w_ => Ext w49 w_) (fun i => Nat.beq i 17) mixed (by kernel_rfl) ?_
        intro w53 ho54 hs55
        refine ⟨ho54, ?_⟩
        have hx56 := ho54
        refine tn rfl (fun _ hG => y_fld fld40_0 rfl) ?_
        refine tn rfl (fun _ hG => y_lb (hbl47.ext hG) na3 rfl rfl) ?_
        refine tn rfl (fun _ hG => y_neq rfl rfl) ?_
        refine tn rfl (fun _ hG => mvB rfl) ?_
        refine gspT 67 rfl (fun hg57 => ?_) (fun hg57 => ?_)
        ·
          have hg57n := hg57; try simp only [decide_eq_true_eq, decide_eq_false_iff_not, Bool.not_eq_true', Bool.not_eq_false', Bool.and_eq_true, Bool.or_eq_true, Bool.or_eq_false_iff, Bool.cond_true_right, Bool.cond_false_right, Bool.cond_true_left, Bool.cond_false_left, ne_eq, Decidable.not_not, bne_iff_ne, beq_iff_eq, beq_eq_false_iff_ne, Bool.not_true, Bool.not_false] at hg57n
          have hho := hy.hold hok hdl.1 hev.1 hev.2 ham hg57n
          refine tng rfl rfl rfl hg57 (fun _ hG => mvS rfl) ?_
          refine tng rfl rfl rfl hg57 (fun _ hG => y_fld fld40_2 rfl) ?_
          refine tng rfl rfl rfl hg57 (fun _ hG => y_lb (hbl47.ext hG) na3 rfl rfl) ?_
          refine tng rfl rfl rfl hg57 (fun _ hG => y_ix (hSy.ext hG) sl22 rfl (rfl) rfl (by omega) (by omega)) ?_
          refine tng rfl rfl rfl hg57 (fun _ hG => y_le (hSy.ext hG) na3 rfl (by omega) (by omega) rfl) ?_
          refine tng rfl rfl rfl hg57 (fun _ hG => mvS rfl) ?_
          refine tng rfl rfl rfl hg57 (fun _ hG => y_fld fld40_1 rfl) ?_
          refine tng rfl rfl rfl hg57 (fun _ hG => y_lb (hbl47.ext hG) na3 rfl rfl) ?_
          refine tng rfl rfl rfl hg57 (fun _ hG => y_ix (hSy.ext hG) sl22 rfl (rfl) rfl (by omega) (by omega)) ?_
          refine tng rfl rfl rfl hg57 (fun _ hG => y_le (hSy.ext hG) na3 rfl (by omega) (by omega) rfl) ?_
          refine tng rfl rfl rfl hg57 (fun _ hG => y_lbN (hbl10.ext hG) agg26 rfl) ?_
          refine tng rfl rfl rfl hg57 (fun _ hG => mvS rfl) ?_
          refine tng rfl rfl rfl hg57 (fun _ hG => mvI rfl) ?_
          refine tcg rfl rfl rfl hg57 cl18 (ref11_Duration_ok N A _ _ x _ _ _ _ _ _ (hN.ext hx56) (hT.ext hx56)) rfl ?_
          rintro v62 w58 ⟨du, rfl, hdu, ho59⟩
          rw [if_pos (show _ from ⟨goodT_iff.2 hg, by omega, by omega⟩)] at hdu
          rw [show durA N x (el N.acts k) = (el N.acts k).mn + slackA N x (el N.acts k) from rfl] at hdu
          have hx63 := hx56.step ho59 (.inl (Nat.le_refl _))
          have hz64 := ho59.size
          refine ⟨hx63, ?_⟩
          refine tng rfl rfl rfl hg57 (fun _ hG => y_fld fld40_3 rfl) ?_
          refine tng rfl rfl rfl hg57 (fun _ hG => y_lb (hbl47.ext hG) na3 rfl rfl) ?_
          refine tng rfl rfl rfl hg57 (fun _ hG => y_sub rfl rfl (by omega)) ?_
          refine tng rfl rfl rfl hg57 (fun _ hG => y_sub rfl rfl (by omega)) ?_
          refine tng rfl rfl rfl hg57 (fun _ hG => y_lss rfl rfl) ?_
          refine tn rfl (fun _ hG => y_pickT rfl hg57 (v := .bool _) rfl) ?_
          refine tn rfl (fun _ hG => mvB rfl) ?_
          refine gspT 88 rfl (fun hg65 => ?_) (fun hg65 => ?_)
          ·
            have hg65n := hg65; try simp only [decide_eq_true_eq, decide_eq_false_iff_not, Bool.not_eq_true', Bool.not_eq_false', Bool.and_eq_true, Bool.or_eq_true, Bool.or_eq_false_iff, Bool.cond_true_right, Bool.cond_false_right, Bool.cond_true_left, Bool.cond_false_left, ne_eq, Decidable.not_not, bne_iff_ne, beq_iff_eq, beq_eq_false_iff_ne, Bool.not_true, Bool.not_false] at hg65n
            exfalso; omega
          ·
            have hg65n := hg65; try simp only [decide_eq_true_eq, decide_eq_false_iff_not, Bool.not_eq_true', Bool.not_eq_false', Bool.and_eq_true, Bool.or_eq_true, Bool.or_eq_false_iff, Bool.cond_true_right, Bool.cond_false_right, Bool.cond_true_left, Bool.cond_false_left, ne_eq, Decidable.not_not, bne_iff_ne, beq_iff_eq, beq_eq_false_iff_ne, Bool.not_true, Bool.not_false] at hg65n
            refine tng rfl rfl rfl hg65 (fun _ hG => mvS rfl) ?_
            refine tng rfl rfl rfl hg65 (fun _ hG => y_fld fld40_2 rfl) ?_
            refine tng rfl rfl rfl hg65 (fun _ hG => y_lb (hbl47.ext hG) na3 rfl rfl) ?_
            refine t_end ?_
            have hz66 := hx63.size
            replace hL0 := hL0.ext hx63
            replace hL1 := hL1.ext hx63
            replace hE := hE.step hx63 (.inl (Nat.le_refl _))
            replace hN := hN.ext hx63
            replace hbl10 := hbl10.ext hx63
            replace hT := hT.ext hx63
            replace hSy := hSy.ext hx63
            replace hlp0 := hlp0.step hx63 (.inl (Nat.le_refl _))
            replace hbl47 := hbl47.ext hx63
            refine stg rfl rfl hg65 (y_ix hSy sl22 rfl (rfl) rfl (by omega) (by omega)) ?_
            refine stg rfl rfl hg65 (y_le hSy na3 rfl (by omega) (by omega) rfl) ?_
            refine stg rfl rfl hg65 (y_lss rfl rfl) ?_
            refine st (y_pickF rfl hg65 (v := .bool _) rfl) ?_
            refine rg_end ?_
            refine n_then ?_
            refine cnd rfl (fun hc2 => ?_) (fun hc2 => ?_)
            ·
              try simp only [decide_eq_true_eq, decide_eq_false_iff_not, Bool.not_eq_true', Bool.not_eq_false', Bool.and_eq_true, Bool.or_eq_true, Bool.or_eq_false_iff, Bool.cond_true_right, Bool.cond_false_right, Bool.cond_true_left, Bool.cond_false_left, ne_eq, Decidable.not_not, bne_iff_ne, beq_iff_eq, beq_eq_false_iff_ne, Bool.not_true, Bool.not_false] at hc2
              exfalso; omega
            ·
              try simp only [decide_eq_true_eq, decide_eq_false_iff_not, Bool.not_eq_true', Bool.not_eq_false', Bool.and_eq_true, Bool.or_eq_true, Bool.or_eq_false_iff, Bool.cond_true_right, Bool.cond_false_right, Bool.cond_true_left, Bool.cond_false_left, ne_eq, Decidable.not_not, bne_iff_ne, beq_iff_eq, beq_eq_false_iff_ne, Bool.not_true, Bool.not_false] at hc2
              refine wp_skip ?_
              refine n_blk ?_
              refine n_then ?_
              refine rg ?_
              refine st (y_add rfl rfl (by omega)) ?_
              refine st (mvI rfl) ?_
              refine rg_end ?_
              exact n_then ⟨k + 1, _, rfl, same_lk rfl (same_h0), ⟨rfl, trivial⟩, ⟨hlp0, by omega⟩, by first | omega | (dsimp only; omega)⟩
        ·
          have hg57n := hg57; try simp only [decide_eq_true_eq, decide_eq_false_iff_not, Bool.not_eq_true', Bool.not_eq_false', Bool.and_eq_true, Bool.or_eq_true, Bool.or_eq_false_iff, Bool.cond_true_right, Bool.cond_false_right, Bool.cond_true_left, Bool.cond_false_left, ne_eq, Decidable.not_not, bne_iff_ne, beq_iff_eq, beq_eq_false_iff_ne, Bool.not_true, Bool.not_false] at hg57n
          refine tns rfl rfl hg57 ?_
          refine tns rfl rfl hg57 ?_
          refine tns rfl rfl hg57 ?_
          refine tns rfl rfl hg57 ?_
          refine tns rfl rfl hg57 ?_
          refine tns rfl rfl hg57 ?_
          refine tns rfl rfl hg57 ?_
          refine tns rfl rfl hg57 ?_
          refine tns rfl rfl hg57 ?_
          refine tns rfl rfl hg57 ?_
          refine tns rfl rfl hg57 ?_
          refine tns rfl rfl hg57 ?_
          refine tns rfl rfl hg57 ?_
          refine tns rfl rfl hg57 ?_
          refine tns rfl rfl hg57 ?_
          refine tns rfl rfl hg57 ?_
          refine tns rfl rfl hg57 ?_
          refine tns rfl rfl hg57 ?_
          refine tns rfl rfl hg57 ?_
          refine tn rfl (fun _ hG => y_pickF rfl hg57 (v := .bool _) rfl) ?_
          refine tn rfl (fun _ hG => mvB rfl) ?_
          refine tng rfl rfl rfl rfl (fun _ hG => mvS rfl) ?_
          refine tng rfl rfl rfl rfl (fun _ hG => y_fld fld40_2 rfl) ?_
          refine tng rfl rfl rfl rfl (fun _ hG => y_lb (hbl47.ext hG) na3 rfl rfl) ?_
          refine t_end ?_
          have hz67 := hx56.size
          replace hL0 := hL0.ext hx56
          replace hL1 := hL1.ext hx56
          replace hE := hE.step hx56 (.inl (Nat.le_refl _))
          replace hN := hN.ext hx56
          replace hbl10 := hbl10.ext hx56
          replace hT := hT.ext hx56
          replace hSy := hSy.ext hx56
          replace hlp0 := hlp0.step hx56 (.inl (Nat.le_refl _))
          replace hbl47 := hbl47.ext hx56
          refine stg rfl rfl rfl (y_ix hSy sl22 rfl (rfl) rfl (by omega) (by omega)) ?_
          refine stg rfl rfl rfl (y_le hSy na3 rfl (by omega) (by omega) rfl) ?_
          refine stg rfl rfl rfl (y_lss rfl rfl) ?_
          refine st (y_pickF rfl rfl (v := .bool _) rfl) ?_
          refine rg_end ?_
          refine n_then ?_
          refine cnd rfl (fun hc2 => ?_) (fun hc2 => ?_)
          ·
            try simp only [decide_eq_true_eq, decide_eq_false_iff_not, Bool.not_eq_true', Bool.not_eq_false', Bool.and_eq_true, Bool.or_eq_true, Bool.or_eq_false_iff, Bool.cond_true_right, Bool.cond_false_right, Bool.cond_true_left, Bool.cond_false_left, ne_eq, Decidable.not_not, bne_iff_ne, beq_iff_eq, beq_eq_false_iff_ne, Bool.not_true, Bool.not_false] at hc2
            exfalso; omega
          ·
            try simp only [decide_eq_true_eq, decide_eq_false_iff_not, Bool.not_eq_true', Bool.not_eq_false', Bool.and_eq_true, Bool.or_eq_true, Bool.or_eq_false_iff, Bool.cond_true_right, Bool.cond_false_right, Bool.cond_true_left, Bool.cond_false_left, ne_eq, Decidable.not_not, bne_iff_ne, beq_iff_eq, beq_eq_false_iff_ne, Bool.not_true, Bool.not_false] at hc2
            refine wp_skip ?_
            refine n_blk ?_
            refine n_then ?_
            refine rg ?_
            refine st (y_add rfl rfl (by omega)) ?_
            refine st (mvI rfl) ?_
            refine rg_end ?_
            exact n_then ⟨k + 1, _, rfl, same_lk rfl (same_h0), ⟨rfl, trivial⟩, ⟨hlp0, by omega⟩, by first | omega | (dsimp only; omega)⟩
      ·
        try simp only [decide_eq_true_eq, decide_eq_false_iff_not, Bool.not_eq_true', Bool.not_eq_false', Bool.and_eq_true, Bool.or_eq_true, Bool.or_eq_false_iff, Bool.cond_true_right, Bool.cond_false_right, Bool.cond_true_left, Bool.cond_false_left, ne_eq, Decidable.not_not, bne_iff_ne, beq_iff_eq, beq_eq_false_iff_ne, Bool.not_true, Bool.not_false] at hc1
        refine wp_exit ?_
        refine e_then (e_then (e_blk (?_)))
        refine n_then ?_
        refine wp_seq ?_
        refine rg ?_
        refine sc cl15 (law22_awake_ok _) rfl ?_
        rintro v72 w68 ⟨rfl, ho69⟩
        have hz73 := ho69.size
        replace hL0 := hL0.ext ho69
        replace hL1 := hL1.ext ho69
        replace hE := hE.step ho69 (.inl (Nat.le_refl _))
        replace hN := hN.ext ho69
        replace hbl10 := hbl10.ext ho69
        replace hT := hT.ext ho69
        replace hSy := hSy.ext ho69
        refine st (asB rfl) ?_
        refine rg_end ?_
        refine n_then ?_
        refine wp_ret ?_
        refine ret1 (v := (.bool _)) Try.results5 rfl ?_
        exact ⟨rfl, hE⟩
end Go.Proofs.Ytggaekjnpbicnaa
