/-
  Walks of the functions, printed by a program out of the code and the loops' relations.
-/
import Derived.Test.YtclligkngjhihaaWkH
import Derived.Test.YtclligkngjhihaaProg
import Derived.KernelRfl
import Derived.Test.YtclligkngjhihaaI9
namespace Go.Proofs.Ytclligkngjhihaa
open Go.Wk Go.RowKit
set_option linter.unusedVariables false
set_option linter.unusedSimpArgs false
theorem bld46_0 (d0 : Option Addr) (l0 : Nat) (c0 : Nat) (w : World) : (Instr.build 46 [(0, (.slice d0 l0 c0))].toArray).run Try.prog w = .ok (.agg [(.slice d0 l0 c0), .slice none 0 0].toArray) w := by kernel_rfl

theorem wf_i64 {x : Int} (h : (Lit.int .i64 x).wf = true) : -9223372036854775808 ≤ x ∧ x ≤ 9223372036854775807 := by
  have h2 : decide (IntKind.i64.min ≤ x) = true ∧ decide (x ≤ IntKind.i64.max) = true := by simpa [Lit.wf] using h
  have e1 : IntKind.i64.min = -9223372036854775808 := by decide
  have e2 : IntKind.i64.max = 9223372036854775807 := by decide
  have h3 := of_decide_eq_true h2.1
  have h4 := of_decide_eq_true h2.2
  omega

set_option maxHeartbeats 4000000 in
set_option maxRecDepth 100000 in
theorem law18_ContradictionChecks_ok (a0 : Option Addr) (c0 : Nat) (l0 : List Int) (how pos vv bd : Int) (w : World) (hL0 : Ints 0 w.heap.size w a0 l0) (hl0 : (l0.length : Int) ≤ 9223372036854775807) (hv0 : -9223372036854775808 ≤ vv ∧ vv ≤ 9223372036854775807) : Cal Try.prog 8 [.slice a0 l0.length c0, .int .i64 how, .int .i64 pos, .int .i64 vv, .int .i64 bd] w (fun v w' => v = .bool true ∧ Ext w w') := by
  have hE : Out 0 0 w w := Out.refl _ _ w
  refine enter Try.func8 rfl Try.ntmps8 rfl ?_
  refine wp_seq ?_
  refine rg ?_
  refine st (asB rfl) ?_
  refine rg_end ?_
  refine n_then ?_
  refine wp_seq ?_
  refine rg ?_
  refine st (mvS rfl) ?_
  refine sc cl18 (keep_Network_ok _ _ _ _ _ _ hL0 hl0) rfl ?_
  rintro v5 w1 ⟨N, A, rfl, hsm, hev, hac, hdis, ho2⟩
  have hN : NetIn _ _ _ N A := ⟨Ow.sl hev, Ow.sl hac⟩
  clear hev hac
  have hok := hsm.1
  have hev1 := hok.ev
  have hac8 := hsm.2.2.2.2.2.1
  have hp2 := hsm.2.1
  have hp9 := hsm.2.2.1
  have hz6 := ho2.size
  replace hL0 := hL0.ext ho2
  replace hE := hE.step ho2 (.inl (Nat.le_refl _))
  refine sd (d_allocA zer26 ?_)
  intro b11 w7 hbb11 hs9 ho8 hb11
  have hz10 := ho8.size
  replace hL0 := hL0.ext ho8
  replace hE := hE.step ho8 (.inl (Nat.le_refl _))
  replace hN := hN.ext ho8
  refine sd0 (d_stN hb11 rfl rfl sz26 rfl rfl ?_)
  intro w11 hs13 ho12 hb11'
  clear hb11; have hb11 := hb11'; clear hb11'
  have hz14 := ho12.size
  replace hL0 := hL0.out ho12 (by first | omega | (simp only [blk_some, hi1_some] at *; omega))
  replace hE := hE.step ho12 (by first | omega | (simp only [blk_some, hi1_some] at *; omega))
  replace hN := hN.out ho12 (by first | omega | (simp only [blk_some, hi1_some] at *; omega))
  refine rg_end ?_
  refine n_then ?_
  refine wp_seq ?_
  refine rg ?_
  refine st (y_lbN hb11 agg26 rfl) ?_
  refine sc cl29 (ref17_Find_ok N A _ _ 65536 _ hN) rfl ?_
  rintro v19 w15 ⟨aq, cq, aw, cw, rows, rfl, hcq, hQ, hW, hrw, ho16⟩
  have hsl := cfS_len (N := N) (B := 65536)
  have hwl := cfW_cnt (N := N) (B := 65536)
  have hrl := congrArg List.length hrw
  rw [List.length_map] at hrl
  have hev2 := hsm.2.2.2.1
  have hz20 := ho16.size
  replace hL0 := hL0.ext ho16
  replace hE := hE.step ho16 (.inl (Nat.le_refl _))
  replace hN := hN.ext ho16
  replace hb11 := hb11.ext ho16
  refine st (mvT rfl) ?_
  refine st (y_ext rfl rfl) ?_
  refine st (y_ext rfl rfl) ?_
  refine st (y_ext rfl rfl) ?_
  refine sd (d_allocA zer46 ?_)
  intro b12 w21 hbb12 hs23 ho22 hb12
  have hz24 := ho22.size
  replace hL0 := hL0.ext ho22
  replace hE := hE.step ho22 (.inl (Nat.le_refl _))
  replace hN := hN.ext ho22
  replace hb11 := hb11.ext ho22
  replace hQ := hQ.ext ho22
  replace hW := hW.ext ho22
  refine sd0 (d_stN hb12 rfl rfl sz46 rfl rfl ?_)
  intro w25 hs27 ho26 hb12'
  clear hb12; have hb12 := hb12'; clear hb12'
  have hz28 := ho26.size
  replace hL0 := hL0.out ho26 (by first | omega | (simp only [blk_some, hi1_some] at *; omega))
  replace hE := hE.step ho26 (by first | omega | (simp only [blk_some, hi1_some] at *; omega))
  replace hN := hN.out ho26 (by first | omega | (simp only [blk_some, hi1_some] at *; omega))
  replace hb11 := hb11.out ho26 (by first | omega | (simp only [blk_some, hi1_some] at *; omega))
  replace hQ := hQ.out ho26 (by first | omega | (simp only [blk_some, hi1_some] at *; omega))
  replace hW := hW.out ho26 (by first | omega | (simp only [blk_some, hi1_some] at *; omega))
  refine st (asI rfl) ?_
  refine st (asI rfl) ?_
  refine rg_end ?_
  refine n_then ?_
  refine wp_seq ?_
  refine rg ?_
  refine st (y_fld fld46_0 rfl) ?_
  refine st (y_lb hb12 na22 rfl rfl) ?_
  obtain ⟨z0, hz0⟩ : ∃ z, z = w25.heap.size := ⟨_, rfl⟩
  have hS2 := Ow.nil (E := 3) (sz := 1) (enc := Wk.encI) (lo := w25.heap.size) (hi := 0) (w := w25) (fun _ => rfl)
  have hrhS2 := hS2.rng
  refine sd (d_appN (xs := (cfS N 65536)) hS2 sl22 infoz3 (by decide) rfl rfl rfl (rfl) (hQ) (fun _ => rfl) (by simp; unfold maxLen; omega) (by simp; omega) (by omega) (by omega) ?_)
  intro as2 cs2 w29 ho30 hS2'
  have hs31 := ho30.size
  clear hS2; have hS2 := hS2'; clear hS2'
  have hz34 := ho30.size
  replace hL0 := hL0.out ho30 (by first | omega | (simp only [blk_some, hi1_some] at *; omega))
  replace hE := hE.step ho30 (by first | omega | (simp only [blk_some, hi1_some] at *; omega))
  replace hN := hN.out ho30 (by first | omega | (simp only [blk_some, hi1_some] at *; omega))
  replace hb11 := hb11.out ho30 (by first | omega | (simp only [blk_some, hi1_some] at *; omega))
  replace hQ := hQ.out ho30 (by first | omega | (simp only [blk_some, hi1_some] at *; omega))
  replace hW := hW.out ho30 (by first | omega | (simp only [blk_some, hi1_some] at *; omega))
  replace hb12 := hb12.out ho30 (by first | omega | (simp only [blk_some, hi1_some] at *; omega))
  rw [List.nil_append] at hS2
  have hS2r := hS2.rng
  refine st (y_build (bld46_0 _ _ _ _) rfl) ?_
  refine sd (d_allocA zer46 ?_)
  intro b15 w35 hbb15 hs37 ho36 hb15
  have hz38 := ho36.size
  replace hL0 := hL0.ext ho36
  replace hE := hE.step ho36 (.inl (Nat.le_refl _))
  replace hN := hN.ext ho36
  replace hb11 := hb11.ext ho36
  replace hQ := hQ.ext ho36
  replace hW := hW.ext ho36
  replace hb12 := hb12.ext ho36
  replace hS2 := hS2.ext ho36
  refine sd0 (d_stN hb15 rfl rfl sz46 rfl rfl ?_)
  intro w39 hs41 ho40 hb15'
  clear hb15; have hb15 := hb15'; clear hb15'
  have hz42 := ho40.size
  replace hL0 := hL0.out ho40 (by first | omega | (simp only [blk_some, hi1_some] at *; omega))
  replace hE := hE.step ho40 (by first | omega | (simp only [blk_some, hi1_some] at *; omega))
  replace hN := hN.out ho40 (by first | omega | (simp only [blk_some, hi1_some] at *; omega))
  replace hb11 := hb11.out ho40 (by first | omega | (simp only [blk_some, hi1_some] at *; omega))
  replace hQ := hQ.out ho40 (by first | omega | (simp only [blk_some, hi1_some] at *; omega))
  replace hW := hW.out ho40 (by first | omega | (simp only [blk_some, hi1_some] at *; omega))
  replace hb12 := hb12.out ho40 (by first | omega | (simp only [blk_some, hi1_some] at *; omega))
  have hrnhS2 := hS2.rng
  replace hS2 := hS2.out ho40 (by first | omega | (simp only [blk_some, hi1_some] at *; omega))
  refine rg_end ?_
  refine n_then ?_
  refine wp_seq ?_
  refine wp_seq ?_
  refine rg ?_
  refine st (y_fld fld46_1 rfl) ?_
  refine st (y_lb hb12 na44 rfl rfl) ?_
  refine st (y_len Try.underlying44 rfl) ?_
  refine st (mvI rfl) ?_
  refine rg_end ?_
  refine n_then ?_
  refine wp_block ?_
  obtain ⟨z1, hz1⟩ : ∃ z, z = w39.heap.size := ⟨_, rfl⟩
  refine lp (γ := Nat × List Rw × Option Addr × Nat) [16, 33, 34, 35, 36, 37, 38, 39, 40, 41, 42, 43, 44, 45, 46, 47] (fun ⟨k, rows2, aw2, cw2⟩ => [(33, .int .i64 (k : Int))]) (fun ⟨k, rows2, aw2, cw2⟩ w_ => Out b15 (b15 + 1) w39 w_ ∧ (k : Int) ≤ rows.length ∧ rows2.length = k ∧ (∀ e : Int, 0 ≤ e → e < k → (el rows2 e).l = (el rows e).l) ∧ Blk w_ b15 [.slice as2 (cfS N 65536).length cs2, .slice aw2 rows2.length cw2] ∧ Ow 22 encRw 1 z1 w_.heap.size w_ aw2 cw2 rows2 ∧ WOwn z1 w_.heap.size w_ aw2 rows2) (fun ⟨k, rows2, aw2, cw2⟩ => rows.length - k) (0, [], none, 0) ⟨rfl, trivial⟩ ⟨Out.refl _ _ _, by simp, rfl, (fun e h0 h1 => by omega), hb15, Ow.nil (fun _ => rfl), WOwn.nil⟩ ?_
  rintro ⟨k, rows2, aw2, cw2⟩ hav_ w43 ⟨ho44, hk, hk1, hrl2, hb15, hT2, hO2⟩
  have hlp0 := ho44
  have hz45 := ho44.size
  replace hL0 := hL0.out ho44 (by first | omega | (simp only [blk_some, hi1_some] at *; omega))
  replace hE := hE.step ho44 (by first | omega | (simp only [blk_some, hi1_some] at *; omega))
  replace hN := hN.out ho44 (by first | omega | (simp only [blk_some, hi1_some] at *; omega))
  replace hb11 := hb11.out ho44 (by first | omega | (simp only [blk_some, hi1_some] at *; omega))
  replace hQ := hQ.out ho44 (by first | omega | (simp only [blk_some, hi1_some] at *; omega))
  replace hW := hW.out ho44 (by first | omega | (simp only [blk_some, hi1_some] at *; omega))
  replace hb12 := hb12.out ho44 (by first | omega | (simp only [blk_some, hi1_some] at *; omega))
  replace hS2 := hS2.out ho44 (by first | omega | (simp only [blk_some, hi1_some] at *; omega))
  refine wp_seq ?_
  refine rg ?_
  refine st (y_lss rfl rfl) ?_
  refine rg_end ?_
  refine n_then ?_
  refine wp_seq ?_
  refine cnd rfl (fun hc0 => ?_) (fun hc0 => ?_)
  ·
    try simp only [decide_eq_true_eq, decide_eq_false_iff_not, Bool.not_eq_true', Bool.not_eq_false', Bool.and_eq_true, Bool.or_eq_true, Bool.or_eq_false_iff, Bool.cond_true_right, Bool.cond_false_right, Bool.cond_true_left, Bool.cond_false_left, ne_eq, Decidable.not_not, bne_iff_ne, beq_iff_eq, beq_eq_false_iff_ne, Bool.not_true, Bool.not_false] at hc0
    have hm1 := el_mem (l := rows) (i := (k : Int)) (by omega) (by omega)
    have hrow := hW.row _ hm1
    have hrn := cfW_n (N := N) (B := 65536) (el rows (k : Int)).l (by rw [← hrw]; exact List.mem_map.2 ⟨_, hm1, rfl⟩)
    refine wp_skip ?_
    refine n_then ?_
    refine wp_seq ?_
    refine wp_block ?_
    refine wp_seq ?_
    refine rg ?_
    refine st (mvI rfl) ?_
    refine st (asI rfl) ?_
    refine rg_end ?_
    refine n_then ?_
    refine rgD 9 (fun w_ => Ext w43 w_) (fun i => Nat.beq i 7 || Nat.beq i 8) mixed (by kernel_rfl) ?_
    intro w46 ho47 hs48
    refine ⟨ho47, ?_⟩
    have hx49 := ho47
    refine tn rfl (fun _ hG => y_fld fld46_1 rfl) ?_
    refine tn rfl (fun _ hG => y_lb (hb15.ext hG) na44 rfl rfl) ?_
    refine tn rfl (fun _ hG => y_fld fld46_1 rfl) ?_
    refine tn rfl (fun _ hG => y_lb (hb12.ext hG) na44 rfl rfl) ?_
    refine tn rfl (fun _ hG => mvI rfl) ?_
    refine tn rfl (fun _ hG => y_ix (hW.tb.ext hG) sl44 rfl (rfl) rfl (by omega) (by omega)) ?_
    refine tn rfl (fun _ hG => y_le (hW.tb.ext hG) na22 rfl (by omega) (by omega) rfl) ?_
    have hnr := Ow.nil (E := 3) (sz := 1) (enc := Wk.encI) (lo := w46.heap.size) (hi := 0) (w := w46) (fun _ => rfl)
    have hrhnr := hnr.rng
    refine td rfl (d_appN (xs := (el rows (k : Int)).l) hnr sl22 infoz3 (by decide) rfl rfl rfl (rfl) ((hrow.ext hx49)) (fun _ => rfl) (by simp; unfold maxLen; omega) (by simp; omega) (by omega) (by omega) ?_)
    intro an cn w50 ho51 hnr'
    have hs52 := ho51.size
    clear hnr; have hnr := hnr'; clear hnr'
    replace ho51 : Ext _ _ := ho51
    have hx55 := hx49.step ho51 (.inl (Nat.le_refl _))
    have hz56 := ho51.size
    refine ⟨hx55, ?_⟩
    refine td rfl (d_bs (bsl44_1 _ _ _ _) rfl ?_)
    intro b8 w57 hbb8 hs59 ho58 hb8
    have hx60 := hx55.step ho58 (.inl (Nat.le_refl _))
    have hz61 := ho58.size
    replace hnr := hnr.ext ho58
    refine ⟨hx60, ?_⟩
    refine t_end ?_
    have hz62 := hx60.size
    replace hL0 := hL0.ext hx60
    replace hE := hE.step hx60 (.inl (Nat.le_refl _))
    replace hN := hN.ext hx60
    replace hb11 := hb11.ext hx60
    replace hQ := hQ.ext hx60
    replace hW := hW.ext hx60
    replace hb12 := hb12.ext hx60
    replace hS2 := hS2.ext hx60
    replace hb15 := hb15.ext hx60
    replace hT2 := hT2.ext hx60
    replace hO2 := hO2.ext hx60
    replace hlp0 := hlp0.step hx60 (.inl (Nat.le_refl _))
    replace hrow := hrow.ext hx60
    have hO0 := hO2
    have hnr0 := hnr
    have hT2r := hT2.rng
    have hnrr := hnr.rng
    have hrhT2 := hT2.rng
    refine sd (d_appA (xs := [(⟨an, cn, (el rows (k : Int)).l⟩ : Rw)]) hT2 sl44 infoz22 (by decide) rfl rfl rfl rfl (hb8) (fun _ => rfl) (by simp; unfold maxLen; omega) (by simp; omega) (by omega) (by omega) ?_)
    intro aw3 cw3 w63 hat hoA hT2'
    have hs64 := hoA.size
    clear hT2; have hT2 := hT2'; clear hT2'
    have hz67 := hoA.size
    replace hL0 := hL0.out hoA (by first | omega | (simp only [blk_some, hi1_some] at *; omega))
    replace hE := hE.step hoA (by first | omega | (simp only [blk_some, hi1_some] at *; omega))
    replace hN := hN.out hoA (by first | omega | (simp only [blk_some, hi1_some] at *; omega))
    replace hb11 := hb11.out hoA (by first | omega | (simp only [blk_some, hi1_some] at *; omega))
    replace hQ := hQ.out hoA (by first | omega | (simp only [blk_some, hi1_some] at *; omega))
    replace hW := hW.out hoA (by first | omega | (simp only [blk_some, hi1_some] at *; omega))
    replace hb12 := hb12.out hoA (by first | omega | (simp only [blk_some, hi1_some] at *; omega))
    replace hS2 := hS2.out hoA (by first | omega | (simp only [blk_some, hi1_some] at *; omega))
    replace hb15 := hb15.out hoA (by first | omega | (simp only [blk_some, hi1_some] at *; omega))
    replace hlp0 := hlp0.step hoA (by first | omega | (simp only [blk_some, hi1_some] at *; omega))
    replace hrow := hrow.out hoA (by first | omega | (simp only [blk_some, hi1_some] at *; omega))
    have hO2 := hO0.app (r := ⟨an, cn, (el rows (k : Int)).l⟩) hnr0 (by omega) (by omega) (by omega) (by omega) (by omega) hoA hat
    refine st (y_fld fld46_1 rfl) ?_
    refine sd0 (d_st hb15 sz44 rfl rfl rfl (Nat.le_of_ble_eq_true rfl) ?_)
    intro w68 hs70 ho69 hb15'
    clear hb15; have hb15 := hb15'; clear hb15'
    have hz71 := ho69.size
    replace hL0 := hL0.out ho69 (by first | omega | (simp only [blk_some, hi1_some] at *; omega))
    replace hE := hE.step ho69 (by first | omega | (simp only [blk_some, hi1_some] at *; omega))
    replace hN := hN.out ho69 (by first | omega | (simp only [blk_some, hi1_some] at *; omega))
    replace hb11 := hb11.out ho69 (by first | omega | (simp only [blk_some, hi1_some] at *; omega))
    replace hQ := hQ.out ho69 (by first | omega | (simp only [blk_some, hi1_some] at *; omega))
    replace hW := hW.out ho69 (by first | omega | (simp only [blk_some, hi1_some] at *; omega))
    replace hb12 := hb12.out ho69 (by first | omega | (simp only [blk_some, hi1_some] at *; omega))
    replace hS2 := hS2.out ho69 (by first | omega | (simp only [blk_some, hi1_some] at *; omega))
    replace hlp0 := hlp0.step ho69 (by first | omega | (simp only [blk_some, hi1_some] at *; omega))
    replace hrow := hrow.out ho69 (by first | omega | (simp only [blk_some, hi1_some] at *; omega))
    have hrnhT2 := hT2.rng
    replace hT2 := hT2.out ho69 (by first | omega | (simp only [blk_some, hi1_some] at *; omega))
    replace hO2 := hO2.out ho69 (by first | omega | (simp only [blk_some, hi1_some] at *; omega))
    refine rg_end ?_
    refine n_blk ?_
    refine n_then ?_
    refine rg ?_
    refine st (y_add rfl rfl (by omega)) ?_
    refine st (mvI rfl) ?_
    refine rg_end ?_
    exact n_then ⟨(k + 1, _, _, _), _, rfl, same_lk rfl (same_h0), ⟨rfl, trivial⟩, ⟨hlp0, by omega, by rw [List.length_append, hk1]; rfl, (fun e h0 h1 => by
  by_cases q : e < k
  · rw [elApp1 h0 (by omega)]; exact hrl2 e h0 q
  · have q2 : e = rows2.length := by omega
    rw [elApp2 q2, q2, hk1]), hb15, hT2.wide (by omega), hO2.wide (by omega)⟩, by first | omega | (dsimp only; omega)⟩
  ·
    try simp only [decide_eq_true_eq, decide_eq_false_iff_not, Bool.not_eq_true', Bool.not_eq_false', Bool.and_eq_true, Bool.or_eq_true, Bool.or_eq_false_iff, Bool.cond_true_right, Bool.cond_false_right, Bool.cond_true_left, Bool.cond_false_left, ne_eq, Decidable.not_not, bne_iff_ne, beq_iff_eq, beq_eq_false_iff_ne, Bool.not_true, Bool.not_false] at hc0
    have hk2 : rows2.length = rows.length := by omega
    obtain ⟨zc, hzc⟩ : ∃ z, z = w43.heap.size := ⟨_, rfl⟩
    refine wp_exit ?_
    refine e_then (e_then (e_blk (?_)))
    refine n_then ?_
    refine cut (γ := List Int × Option Addr × Nat × List Rw × Option Addr × Nat) [15, 17, 48, 49, 50, 51, 52, 53, 54, 55, 56, 57, 58, 59, 60, 61, 62, 63, 64, 65, 66, 67, 68, 69, 70, 71, 72, 73, 74, 75, 76, 77, 78, 79, 80, 81, 82, 83, 84, 85, 86, 87, 88, 89, 90, 91, 92, 93, 94, 95, 96, 97, 98, 99, 100, 101, 102, 103, 104, 105, 106, 107, 108, 109, 110, 111, 112, 113, 114, 115, 116, 117, 118, 119, 120, 121, 122, 123, 124] (fun ⟨S3, as3, cs3, rows3, aw3, cw3⟩ => [(15, .pointer (some ⟨b15, 0, none⟩))]) (fun ⟨S3, as3, cs3, rows3, aw3, cw3⟩ w_ => Out z0 zc w43 w_ ∧ Ints z0 w_.heap.size w_ as3 S3 ∧ WitIn z0 w_.heap.size w_ aw3 rows3 ∧ Blk w_ b15 [.slice as3 S3.length cs3, .slice aw3 rows3.length cw3] ∧ S3.length ≤ cs3 ∧ (S3.length : Int) ≤ 1000 ∧ (rows3.length : Int) ≤ 1000) ?_ ?_
    ·
      have hcut := Out.refl z0 zc w43
      refine wp_seq ?_
      refine rg ?_
      refine st (y_fld fld46_0 rfl) ?_
      refine st (y_lb hb15 na22 rfl rfl) ?_
      refine st (y_len Try.underlying22 rfl) ?_
      refine st (y_gtr rfl rfl) ?_
      refine rg_end ?_
      refine n_then ?_
      refine cnd rfl (fun hc1 => ?_) (fun hc1 => ?_)
      ·
        try simp only [decide_eq_true_eq, decide_eq_false_iff_not, Bool.not_eq_true', Bool.not_eq_false', Bool.and_eq_true, Bool.or_eq_true, Bool.or_eq_false_iff, Bool.cond_true_right, Bool.cond_false_right, Bool.cond_true_left, Bool.cond_false_left, ne_eq, Decidable.not_not, bne_iff_ne, beq_iff_eq, beq_eq_false_iff_ne, Bool.not_true, Bool.not_false] at hc1
        have hS0 : cfE N 65536 = 0 := by
          apply Classical.byContradiction; intro h
          rw [(cf_none h).1] at hc1; simp at hc1
        have hlst := cf_least hS0
        have hlen := hlst.len
        have hO2' := hO2
        refine wp_seq ?_
        refine rg ?_
        refine st (mvI rfl) ?_
        refine st (y_fld fld46_0 rfl) ?_
        refine st (y_lb hb15 na22 rfl rfl) ?_
        refine st (y_len Try.underlying22 rfl) ?_
        refine sc cl20 (keep_Pick_ok _ _ _ (by omega) (by omega)) rfl ?_
        rintro v76 w72 ⟨rfl, ho73⟩
        have hpk := pick_rng pos ((cfS N 65536).length : Int) (by omega)
        obtain ⟨j, hj⟩ : ∃ j : Nat, pick pos ((cfS N 65536).length : Int) = (j : Int) := Int.eq_ofNat_of_zero_le hpk.1
        rw [hj] at hpk ⊢
        have hjS : j < (cfS N 65536).length := by omega
        have hz77 := ho73.size
        replace hL0 := hL0.ext ho73
        replace hE := hE.step ho73 (.inl (Nat.le_refl _))
        replace hN := hN.ext ho73
        replace hb11 := hb11.ext ho73
        replace hQ := hQ.ext ho73
        replace hW := hW.ext ho73
        replace hb12 := hb12.ext ho73
        replace hS2 := hS2.ext ho73
        replace hb15 := hb15.ext ho73
        replace hT2 := hT2.ext ho73
        replace hO2 := hO2.ext ho73
        replace hcut := hcut.step ho73 (.inl (Nat.le_refl _))
        refine st (asI rfl) ?_
        refine rg_end ?_
        refine n_then ?_
        refine wp_seq ?_
        refine rg ?_
        refine st (mvI rfl) ?_
        refine sc cl20 (keep_Pick_ok _ _ _ (by omega) (by omega)) rfl ?_
        rintro v82 w78 ⟨rfl, ho79⟩
        have hpk5 := pick_rng how 5 (by omega)
        have hz83 := ho79.size
        replace hL0 := hL0.ext ho79
        replace hE := hE.step ho79 (.inl (Nat.le_refl _))
        replace hN := hN.ext ho79
        replace hb11 := hb11.ext ho79
        replace hQ := hQ.ext ho79
        replace hW := hW.ext ho79
        replace hb12 := hb12.ext ho79
        replace hS2 := hS2.ext ho79
        replace hb15 := hb15.ext ho79
        replace hT2 := hT2.ext ho79
        replace hO2 := hO2.ext ho79
        replace hcut := hcut.step ho79 (.inl (Nat.le_refl _))
        refine rg_end ?_
        refine n_then ?_
        refine wp_block ?_
        refine wp_seq ?_
        refine rg ?_
        refine st (y_eql rfl rfl) ?_
        refine st (asB rfl) ?_
        refine rg_end ?_
        refine n_then ?_
        refine cnd rfl (fun hc2 => ?_) (fun hc2 => ?_)
        ·
          try simp only [decide_eq_true_eq, decide_eq_false_iff_not, Bool.not_eq_true', Bool.not_eq_false', Bool.and_eq_true, Bool.or_eq_true, Bool.or_eq_false_iff, Bool.cond_true_right, Bool.cond_false_right, Bool.cond_true_left, Bool.cond_false_left, ne_eq, Decidable.not_not, bne_iff_ne, beq_iff_eq, beq_eq_false_iff_ne, Bool.not_true, Bool.not_false] at hc2
          have hT3 := hT2.sl
          have hR3 := RwI.of hO2.rs
          refine rgD 10 (fun w_ => Ext w78 w_) (fun i => Nat.beq i 8) mixed (by kernel_rfl) ?_
          intro w84 ho85 hs86
          refine ⟨ho85, ?_⟩
          have hx87 := ho85
          refine tn rfl (fun _ hG => y_fld fld46_0 rfl) ?_
          refine tn rfl (fun _ hG => y_lb (hb15.ext hG) na22 rfl rfl) ?_
          refine tn rfl (fun _ hG => mvI rfl) ?_
          refine tn rfl (fun _ hG => mvI rfl) ?_
          refine tn rfl (fun _ hG => y_fld fld26_2 rfl) ?_
          refine tn rfl (fun _ hG => y_lb (hb11.ext hG) na24 rfl rfl) ?_
          refine tn rfl (fun _ hG => y_len Try.underlying24 rfl) ?_
          refine tn rfl (fun _ hG => y_add rfl rfl (by omega)) ?_
          refine tc rfl cl20 (keep_Pick_ok _ _ _ (by omega) (by omega)) rfl ?_
          rintro v92 w88 ⟨rfl, ho89⟩
          have hpv := pick_rng vv ((N.acts.length : Int) + 2) (by omega)
          have hx93 := hx87.step ho89 (.inl (Nat.le_refl _))
          have hz94 := ho89.size
          refine ⟨hx93, ?_⟩
          refine tn rfl (fun _ hG => y_sub rfl rfl (by omega)) ?_
          refine t_end ?_
          have hz95 := hx93.size
          replace hL0 := hL0.ext hx93
          replace hE := hE.step hx93 (.inl (Nat.le_refl _))
          replace hN := hN.ext hx93
          replace hb11 := hb11.ext hx93
          replace hQ := hQ.ext hx93
          replace hW := hW.ext hx93
          replace hb12 := hb12.ext hx93
          replace hS2 := hS2.ext hx93
          replace hb15 := hb15.ext hx93
          replace hcut := hcut.step hx93 (.inl (Nat.le_refl _))
          replace hT3 := hT3.ext hx93
          replace hR3 := hR3.ext hx93
          refine st (y_ix hS2.sl sl22 rfl (rfl) rfl (by omega) (by omega)) ?_
          refine sd0 (d_se (j := 0) (e' := (pick vv ((N.acts.length : Int) + 2) - 1)) hS2 sz3 rfl rfl rfl (by omega) (by omega) (Nat.le_of_ble_eq_true rfl) rfl ?_)
          intro w96 hs98 ho97 hS2'
          have hrhS2 := hS2.rng
          clear hS2; have hS2 := hS2'; clear hS2'
          have hz99 := ho97.size
          replace hL0 := hL0.out ho97 (by first | omega | (simp only [blk_some, hi1_some] at *; omega))
          replace hE := hE.step ho97 (by first | omega | (simp only [blk_some, hi1_some] at *; omega))
          replace hN := hN.out ho97 (by first | omega | (simp only [blk_some, hi1_some] at *; omega))
          replace hb11 := hb11.out ho97 (by first | omega | (simp only [blk_some, hi1_some] at *; omega))
          replace hQ := hQ.out ho97 (by first | omega | (simp only [blk_some, hi1_some] at *; omega))
          replace hW := hW.out ho97 (by first | omega | (simp only [blk_some, hi1_some] at *; omega))
          replace hb12 := hb12.out ho97 (by first | omega | (simp only [blk_some, hi1_some] at *; omega))
          replace hb15 := hb15.out ho97 (by first | omega | (simp only [blk_some, hi1_some] at *; omega))
          replace hcut := hcut.step ho97 (by first | omega | (simp only [blk_some, hi1_some] at *; omega))
          replace hT3 := hT3.out ho97 (by first | omega | (simp only [blk_some, hi1_some] at *; omega))
          replace hR3 := hR3.out ho97 (by first | omega | (simp only [blk_some, hi1_some] at *; omega))
          refine rg_end ?_
          refine n_blk ?_
          exact n_then ⟨(_, _, _, _, _, _), _, rfl, same_lk rfl (same_rfl), ⟨rfl, trivial⟩, ⟨hcut, Sl.wide (Ow.sl hS2) (by omega) (by omega), ⟨Sl.wide hT3 (by omega) (by omega), fun r hr => Sl.wide (hR3.row r hr) (by omega) (by omega)⟩, by first | exact hb15 | simpa using hb15 | (rw [hlt]; exact hb15), hS2.lenLe, by first | omega | (simp; omega), by first | omega | (simp; omega)⟩⟩
        ·
          try simp only [decide_eq_true_eq, decide_eq_false_iff_not, Bool.not_eq_true', Bool.not_eq_false', Bool.and_eq_true, Bool.or_eq_true, Bool.or_eq_false_iff, Bool.cond_true_right, Bool.cond_false_right, Bool.cond_true_left, Bool.cond_false_left, ne_eq, Decidable.not_not, bne_iff_ne, beq_iff_eq, beq_eq_false_iff_ne, Bool.not_true, Bool.not_false] at hc2
          refine wp_seq ?_
          refine rg ?_
          refine st (y_eql rfl rfl) ?_
          refine st (asB rfl) ?_
          refine rg_end ?_
          refine n_then ?_
          refine cnd rfl (fun hc3 => ?_) (fun hc3 => ?_)
          ·
            try simp only [decide_eq_true_eq, decide_eq_false_iff_not, Bool.not_eq_true', Bool.not_eq_false', Bool.and_eq_true, Bool.or_eq_true, Bool.or_eq_false_iff, Bool.cond_true_right, Bool.cond_false_right, Bool.cond_true_left, Bool.cond_false_left, ne_eq, Decidable.not_not, bne_iff_ne, beq_iff_eq, beq_eq_false_iff_ne, Bool.not_true, Bool.not_false] at hc3
            have hT3 := hT2.sl
            have hR3 := RwI.of hO2.rs
            refine rg ?_
            refine st (y_fld fld46_0 rfl) ?_
            refine st (y_lb hb15 na22 rfl rfl) ?_
            refine st (mvI rfl) ?_
            refine sc cl24 (ref17_Without_ok (cfS N 65536) _ _ _ _ j _ (Ow.sl hS2) hS2.lenLe (by omega) hjS) rfl ?_
            rintro v104 w100 ⟨ax, cx, rfl, hcx, hX, ho101⟩
            have hXr := hX.rng
            have hwo := wo_len (cfS N 65536) j
            have hz105 := ho101.size
            replace hL0 := hL0.ext ho101
            replace hE := hE.step ho101 (.inl (Nat.le_refl _))
            replace hN := hN.ext ho101
            replace hb11 := hb11.ext ho101
            replace hQ := hQ.ext ho101
            replace hW := hW.ext ho101
            replace hb12 := hb12.ext ho101
            replace hS2 := hS2.ext ho101
            replace hb15 := hb15.ext ho101
            replace hcut := hcut.step ho101 (.inl (Nat.le_refl _))
            replace hT3 := hT3.ext ho101
            replace hR3 := hR3.ext ho101
            refine st (y_fld fld46_0 rfl) ?_
            refine sd0 (d_st hb15 sz22 rfl rfl rfl (Nat.le_of_ble_eq_true rfl) ?_)
            intro w106 hs108 ho107 hb15'
            clear hb15; have hb15 := hb15'; clear hb15'
            have hz109 := ho107.size
            replace hL0 := hL0.out ho107 (by first | omega | (simp only [blk_some, hi1_some] at *; omega))
            replace hE := hE.step ho107 (by first | omega | (simp only [blk_some, hi1_some] at *; omega))
            replace hN := hN.out ho107 (by first | omega | (simp only [blk_some, hi1_some] at *; omega))
            replace hb11 := hb11.out ho107 (by first | omega | (simp only [blk_some, hi1_some] at *; omega))
            replace hQ := hQ.out ho107 (by first | omega | (simp only [blk_some, hi1_some] at *; omega))
            replace hW := hW.out ho107 (by first | omega | (simp only [blk_some, hi1_some] at *; omega))
            replace hb12 := hb12.out ho107 (by first | omega | (simp only [blk_some, hi1_some] at *; omega))
            replace hS2 := hS2.out ho107 (by first | omega | (simp only [blk_some, hi1_some] at *; omega))
            replace hcut := hcut.step ho107 (by first | omega | (simp only [blk_some, hi1_some] at *; omega))
            replace hT3 := hT3.out ho107 (by first | omega | (simp only [blk_some, hi1_some] at *; omega))
            replace hR3 := hR3.out ho107 (by first | omega | (simp only [blk_some, hi1_some] at *; omega))
            have hrnhX := hX.rng
            replace hX := hX.out ho107 (by first | omega | (simp only [blk_some, hi1_some] at *; omega))
            clear hS2
            have hS2 := hX
            refine rg_end ?_
            refine n_blk ?_
            exact n_then ⟨(_, _, _, _, _, _), _, rfl, same_lk rfl (same_rfl), ⟨rfl, trivial⟩, ⟨hcut, Sl.wide (Ow.sl hS2) (by omega) (by omega), ⟨Sl.wide hT3 (by omega) (by omega), fun r hr => Sl.wide (hR3.row r hr) (by omega) (by omega)⟩, by first | exact hb15 | simpa using hb15 | (rw [hlt]; exact hb15), hS2.lenLe, by first | omega | (simp; omega), by first | omega | (simp; omega)⟩⟩
          ·
            try simp only [decide_eq_true_eq, decide_eq_false_iff_not, Bool.not_eq_true', Bool.not_eq_false', Bool.and_eq_true, Bool.or_eq_true, Bool.or_eq_false_iff, Bool.cond_true_right, Bool.cond_false_right, Bool.cond_true_left, Bool.cond_false_left, ne_eq, Decidable.not_not, bne_iff_ne, beq_iff_eq, beq_eq_false_iff_ne, Bool.not_true, Bool.not_false] at hc3
            refine wp_seq ?_
            refine rg ?_
            refine st (y_eql rfl rfl) ?_
            refine st (asB rfl) ?_
            refine rg_end ?_
            refine n_then ?_
            refine cnd rfl (fun hc4 => ?_) (fun hc4 => ?_)
            ·
              try simp only [decide_eq_true_eq, decide_eq_false_iff_not, Bool.not_eq_true', Bool.not_eq_false', Bool.and_eq_true, Bool.or_eq_true, Bool.or_eq_false_iff, Bool.cond_true_right, Bool.cond_false_right, Bool.cond_true_left, Bool.cond_false_left, ne_eq, Decidable.not_not, bne_iff_ne, beq_iff_eq, beq_eq_false_iff_ne, Bool.not_true, Bool.not_false] at hc4
              have hTt := Ow.take hT2 j
              have hTd := Sl.drop hT2.sl hT2.lenLe (j + 1)
              have hlt : (rows2.take j).length = j := by rw [List.length_take]; omega
              have hld : (rows2.drop (j + 1)).length = rows2.length - (j + 1) := List.length_drop ..
              have hT2r := hT2.rng
              refine rgD 15 (fun w_ => Out (blk aw2) (hi1 aw2) w78 w_) (fun i => Nat.beq i 3 || Nat.beq i 13) mixed (by kernel_rfl) ?_
              intro w110 ho111 hs112
              refine ⟨ho111.wide (.inl (Nat.le_refl _)), ?_⟩
              have hx113 := ho111.wide (a' := (blk aw2)) (b' := (hi1 aw2)) (.inl (Nat.le_refl _))
              replace hTt := hTt.ext ho111
              replace hTd := hTd.ext ho111
              replace hO2 := hO2.ext ho111
              replace hS2 := hS2.ext ho111
              refine tn rfl (fun _ hG => y_fld fld46_0 rfl) ?_
              refine tn rfl (fun _ hG => y_lb (hb15.out hG (by first | omega | (simp only [blk_some, hi1_some] at *; omega))) na22 rfl rfl) ?_
              refine tn rfl (fun _ hG => mvI rfl) ?_
              refine tc rfl cl24 (ref17_Without_ok (cfS N 65536) _ _ _ _ j _ (Ow.sl hS2) hS2.lenLe (by omega) hjS) rfl ?_
              rintro v118 w114 ⟨ax, cx, rfl, hcx, hX, ho115⟩
              have hXr := hX.rng
              have hwo := wo_len (cfS N 65536) j
              have hx119 := hx113.step ho115 (.inl (Nat.le_refl _))
              have hz120 := ho115.size
              replace hO2 := hO2.ext ho115
              replace hS2 := hS2.ext ho115
              replace hTd := hTd.ext ho115
              replace hTt := hTt.ext ho115
              refine ⟨hx119, ?_⟩
              refine tn rfl (fun _ hG => y_fld fld46_1 rfl) ?_
              refine tn rfl (fun _ hG => y_lb (hb15.out hG (by first | omega | (simp only [blk_some, hi1_some] at *; omega))) na44 rfl rfl) ?_
              refine tn rfl (fun _ hG => mvI rfl) ?_
              refine tn rfl (fun _ hG => y_slh sl44 rfl rfl (by omega) (by have := hT2.lenLe; omega)) ?_
              have hjt : ((j : Int)).toNat = (rows2.take j).length := by rw [hlt]; rfl
              rw [hjt]
              refine tn rfl (fun _ hG => y_fld fld46_1 rfl) ?_
              refine tn rfl (fun _ hG => y_lb (hb15.out hG (by first | omega | (simp only [blk_some, hi1_some] at *; omega))) na44 rfl rfl) ?_
              refine tn rfl (fun _ hG => mvI rfl) ?_
              refine tn rfl (fun _ hG => y_add rfl rfl (by omega)) ?_
              refine tn rfl (fun _ hG => y_sll sl44 rfl rfl (by omega) (by omega)) ?_
              have hO0 := hO2
              have hrhTt := hTt.rng
              refine td rfl (d_appN (xs := rows2.drop (j + 1)) hTt sl44 infoz22 (by decide) rfl rfl rfl (by rw [hld]; omega) (hTd) (fun _ => rfl) (by simp; unfold maxLen; omega) (by simp; omega) (by omega) (by omega) ?_)
              intro aw4 cw4 w121 hoB hTt'
              have hs122 := hoB.size
              clear hTt; have hTt := hTt'; clear hTt'
              have hx125 : Out (blk aw2) (hi1 aw2) w78 w121 := hx119.step hoB (by first | omega | (simp only [blk_some, hi1_some] at *; omega))
              replace hS2 := hS2.out hoB (by first | omega | (simp only [blk_some, hi1_some] at *; omega))
              replace hX := hX.out hoB (by first | omega | (simp only [blk_some, hi1_some] at *; omega))
              refine ⟨hx125, ?_⟩
              have hR3 := RwI.sub (rows' := rows2.take j ++ rows2.drop (j + 1)) (hO0.after hoB) (fun r hr => by rcases List.mem_append.1 hr with h | h; exact List.mem_of_mem_take h; exact List.mem_of_mem_drop h)
              refine tn rfl (fun _ hG => y_fld fld46_0 rfl) ?_
              refine t_end ?_
              have hz126 := hx125.size
              replace hL0 := hL0.out hx125 (by first | omega | (simp only [blk_some, hi1_some] at *; omega))
              replace hE := hE.step hx125 (by first | omega | (simp only [blk_some, hi1_some] at *; omega))
              replace hN := hN.out hx125 (by first | omega | (simp only [blk_some, hi1_some] at *; omega))
              replace hb11 := hb11.out hx125 (by first | omega | (simp only [blk_some, hi1_some] at *; omega))
              replace hQ := hQ.out hx125 (by first | omega | (simp only [blk_some, hi1_some] at *; omega))
              replace hW := hW.out hx125 (by first | omega | (simp only [blk_some, hi1_some] at *; omega))
              replace hb12 := hb12.out hx125 (by first | omega | (simp only [blk_some, hi1_some] at *; omega))
              replace hb15 := hb15.out hx125 (by first | omega | (simp only [blk_some, hi1_some] at *; omega))
              replace hcut := hcut.step hx125 (by first | omega | (simp only [blk_some, hi1_some] at *; omega))
              refine sd0 (d_st hb15 sz22 rfl rfl rfl (Nat.le_of_ble_eq_true rfl) ?_)
              intro w127 hs129 ho128 hb15'
              clear hb15; have hb15 := hb15'; clear hb15'
              have hz130 := ho128.size
              replace hL0 := hL0.out ho128 (by first | omega | (simp only [blk_some, hi1_some] at *; omega))
              replace hE := hE.step ho128 (by first | omega | (simp only [blk_some, hi1_some] at *; omega))
              replace hN := hN.out ho128 (by first | omega | (simp only [blk_some, hi1_some] at *; omega))
              replace hb11 := hb11.out ho128 (by first | omega | (simp only [blk_some, hi1_some] at *; omega))
              replace hQ := hQ.out ho128 (by first | omega | (simp only [blk_some, hi1_some] at *; omega))
              replace hW := hW.out ho128 (by first | omega | (simp only [blk_some, hi1_some] at *; omega))
              replace hb12 := hb12.out ho128 (by first | omega | (simp only [blk_some, hi1_some] at *; omega))
              replace hS2 := hS2.out ho128 (by first | omega | (simp only [blk_some, hi1_some] at *; omega))
              replace hcut := hcut.step ho128 (by first | omega | (simp only [blk_some, hi1_some] at *; omega))
              have hrnhX := hX.rng
              replace hX := hX.out ho128 (by first | omega | (simp only [blk_some, hi1_some] at *; omega))
              have hrnhTt := hTt.rng
              replace hTt := hTt.out ho128 (by first | omega | (simp only [blk_some, hi1_some] at *; omega))
              replace hR3 := hR3.out ho128 (by first | omega | (simp only [blk_some, hi1_some] at *; omega))
              refine st (y_fld fld46_1 rfl) ?_
              refine sd0 (d_st hb15 sz44 rfl rfl rfl (Nat.le_of_ble_eq_true rfl) ?_)
              intro w131 hs133 ho132 hb15'
              clear hb15; have hb15 := hb15'; clear hb15'
              have hz134 := ho132.size
              replace hL0 := hL0.out ho132 (by first | omega | (simp only [blk_some, hi1_some] at *; omega))
              replace hE := hE.step ho132 (by first | omega | (simp only [blk_some, hi1_some] at *; omega))
              replace hN := hN.out ho132 (by first | omega | (simp only [blk_some, hi1_some] at *; omega))
              replace hb11 := hb11.out ho132 (by first | omega | (simp only [blk_some, hi1_some] at *; omega))
              replace hQ := hQ.out ho132 (by first | omega | (simp only [blk_some, hi1_some] at *; omega))
              replace hW := hW.out ho132 (by first | omega | (simp only [blk_some, hi1_some] at *; omega))
              replace hb12 := hb12.out ho132 (by first | omega | (simp only [blk_some, hi1_some] at *; omega))
              replace hS2 := hS2.out ho132 (by first | omega | (simp only [blk_some, hi1_some] at *; omega))
              replace hcut := hcut.step ho132 (by first | omega | (simp only [blk_some, hi1_some] at *; omega))
              replace hX := hX.out ho132 (by first | omega | (simp only [blk_some, hi1_some] at *; omega))
              replace hTt := hTt.out ho132 (by first | omega | (simp only [blk_some, hi1_some] at *; omega))
              replace hR3 := hR3.out ho132 (by first | omega | (simp only [blk_some, hi1_some] at *; omega))
              clear hS2
              have hS2 := hX
              have hT3 := hTt.sl
              refine rg_end ?_
              refine n_blk ?_
              exact n_then ⟨(_, _, _, _, _, _), _, rfl, same_lk rfl (same_rfl), ⟨rfl, trivial⟩, ⟨hcut, Sl.wide (Ow.sl hS2) (by omega) (by omega), ⟨Sl.wide hT3 (by omega) (by omega), fun r hr => Sl.wide (hR3.row r hr) (by omega) (by omega)⟩, by first | exact hb15 | simpa using hb15 | (rw [hlt]; exact hb15), hS2.lenLe, by first | omega | (simp; omega), by first | omega | (simp; omega)⟩⟩
            ·
              try simp only [decide_eq_true_eq, decide_eq_false_iff_not, Bool.not_eq_true', Bool.not_eq_false', Bool.and_eq_true, Bool.or_eq_true, Bool.or_eq_false_iff, Bool.cond_true_right, Bool.cond_false_right, Bool.cond_true_left, Bool.cond_false_left, ne_eq, Decidable.not_not, bne_iff_ne, beq_iff_eq, beq_eq_false_iff_ne, Bool.not_true, Bool.not_false] at hc4
              refine wp_seq ?_
              refine rg ?_
              refine st (y_eql rfl rfl) ?_
              refine st (asB rfl) ?_
              refine rg_end ?_
              refine n_then ?_
              refine cnd rfl (fun hc5 => ?_) (fun hc5 => ?_)
              ·
                try simp only [decide_eq_true_eq, decide_eq_false_iff_not, Bool.not_eq_true', Bool.not_eq_false', Bool.and_eq_true, Bool.or_eq_true, Bool.or_eq_false_iff, Bool.cond_true_right, Bool.cond_false_right, Bool.cond_true_left, Bool.cond_false_left, ne_eq, Decidable.not_not, bne_iff_ne, beq_iff_eq, beq_eq_false_iff_ne, Bool.not_true, Bool.not_false] at hc5
                have hmj := el_mem (l := rows2) (i := (j : Int)) (by omega) (by omega)
                have hrk := hO2.rs.row (j : Int) (by omega) (by omega)
                have hsk := hO2.sp (j : Int) (by omega) (by omega)
                have hlk : (el rows2 (j : Int)).l.length = N.evs.length := by
                  have e1 := hrl2 (j : Int) (by omega) (by omega)
                  rw [e1]
                  exact cfW_n (N := N) (B := 65536) _ (by rw [← hrw]; exact List.mem_map.2 ⟨_, el_mem (l := rows) (i := (j : Int)) (by omega) (by omega), rfl⟩)
                have hrkr := hrk.rng
                have hT2r := hT2.rng
                refine rgD 20 (fun w_ => Ext w78 w_) (fun i => Nat.beq i 12 || Nat.beq i 18) mixed (by kernel_rfl) ?_
                intro w135 ho136 hs137
                refine ⟨ho136, ?_⟩
                have hx138 := ho136
                refine tn rfl (fun _ hG => y_fld fld46_1 rfl) ?_
                refine tn rfl (fun _ hG => y_lb (hb15.ext hG) na44 rfl rfl) ?_
                refine tn rfl (fun _ hG => mvI rfl) ?_
                refine tn rfl (fun _ hG => y_ix (hT2.ext hG).sl sl44 rfl (rfl) rfl (by omega) (by omega)) ?_
                refine tn rfl (fun _ hG => y_le (hT2.ext hG).sl na22 rfl (by omega) (by omega) rfl) ?_
                refine tn rfl (fun _ hG => mvI rfl) ?_
                refine tn rfl (fun _ hG => y_fld fld46_1 rfl) ?_
                refine tn rfl (fun _ hG => y_lb (hb15.ext hG) na44 rfl rfl) ?_
                refine tn rfl (fun _ hG => mvI rfl) ?_
                refine tn rfl (fun _ hG => y_ix (hT2.ext hG).sl sl44 rfl (rfl) rfl (by omega) (by omega)) ?_
                refine tn rfl (fun _ hG => y_le (hT2.ext hG).sl na22 rfl (by omega) (by omega) rfl) ?_
                refine tn rfl (fun _ hG => y_len Try.underlying22 rfl) ?_
                refine tc rfl cl20 (keep_Pick_ok _ _ _ (by omega) (by omega)) rfl ?_
                rintro v143 w139 ⟨rfl, ho140⟩
                have hpv := pick_rng vv ((el rows2 (j : Int)).l.length : Int) (by omega)
                have hx144 := hx138.step ho140 (.inl (Nat.le_refl _))
                have hz145 := ho140.size
                refine ⟨hx144, ?_⟩
                refine tn rfl (fun _ hG => mvI rfl) ?_
                refine tn rfl (fun _ hG => y_quo rfl rfl (by omega) (by omega)) ?_
                refine tn rfl (fun _ hG => y_fld fld26_0 rfl) ?_
                refine tn rfl (fun _ hG => y_lb (hb11.ext hG) na3 rfl rfl) ?_
                refine tn rfl (fun _ hG => y_add rfl rfl (by omega)) ?_
                refine tc rfl cl20 (keep_Pick_ok _ _ _ (by omega) (by omega)) rfl ?_
                rintro v150 w146 ⟨rfl, ho147⟩
                have hpq := pick_rng (vv.tdiv 8) (N.p + 2) (by omega)
                have hx151 := hx144.step ho147 (.inl (Nat.le_refl _))
                have hz152 := ho147.size
                refine ⟨hx151, ?_⟩
                refine tn rfl (fun _ hG => y_sub rfl rfl (by omega)) ?_
                refine t_end ?_
                have hz153 := hx151.size
                replace hL0 := hL0.ext hx151
                replace hE := hE.step hx151 (.inl (Nat.le_refl _))
                replace hN := hN.ext hx151
                replace hb11 := hb11.ext hx151
                replace hQ := hQ.ext hx151
                replace hW := hW.ext hx151
                replace hb12 := hb12.ext hx151
                replace hS2 := hS2.ext hx151
                replace hb15 := hb15.ext hx151
                replace hT2 := hT2.ext hx151
                replace hO2 := hO2.ext hx151
                replace hcut := hcut.step hx151 (.inl (Nat.le_refl _))
                replace hrk := hrk.ext hx151
                refine st (y_ix hrk.sl sl22 rfl (rfl) rfl (by omega) (by omega)) ?_
                have hO0 := hO2
                refine sd0 (d_se (j := 0) (e' := (pick (vv.tdiv 8) (N.p + 2) - 1)) hrk sz3 rfl rfl rfl (by omega) (by omega) (Nat.le_of_ble_eq_true rfl) rfl ?_)
                intro w154 hs155 hoC hrk'
                have hrhrk := hrk.rng
                clear hrk; have hrk := hrk'; clear hrk'
                have hz156 := hoC.size
                replace hL0 := hL0.out hoC (by first | omega | (simp only [blk_some, hi1_some] at *; omega))
                replace hE := hE.step hoC (by first | omega | (simp only [blk_some, hi1_some] at *; omega))
                replace hN := hN.out hoC (by first | omega | (simp only [blk_some, hi1_some] at *; omega))
                replace hb11 := hb11.out hoC (by first | omega | (simp only [blk_some, hi1_some] at *; omega))
                replace hQ := hQ.out hoC (by first | omega | (simp only [blk_some, hi1_some] at *; omega))
                replace hW := hW.out hoC (by first | omega | (simp only [blk_some, hi1_some] at *; omega))
                replace hb12 := hb12.out hoC (by first | omega | (simp only [blk_some, hi1_some] at *; omega))
                replace hS2 := hS2.out hoC (by first | omega | (simp only [blk_some, hi1_some] at *; omega))
                replace hb15 := hb15.out hoC (by first | omega | (simp only [blk_some, hi1_some] at *; omega))
                have hrnhT2 := hT2.rng
                replace hT2 := hT2.out hoC (by first | omega | (simp only [blk_some, hi1_some] at *; omega))
                replace hcut := hcut.step hoC (by first | omega | (simp only [blk_some, hi1_some] at *; omega))
                have hR3 := RwI.of (hO0.rs.app (z := zc) (e := (j : Int)) (by omega) (by omega) hoC hrk (Nat.le_refl _) (by omega) (.inl ⟨rfl, rfl⟩))
                have hT3 := Sl.setE (j := (j : Int).toNat) (r := ⟨(el rows2 (j : Int)).a, (el rows2 (j : Int)).c, (el rows2 (j : Int)).l.set (pick vv ((el rows2 (j : Int)).l.length : Int)).toNat (pick (vv.tdiv 8) (N.p + 2) - 1)⟩) hT2.sl (by simp; omega) (by simp [encRw])
                refine rg_end ?_
                refine n_blk ?_
                exact n_then ⟨(_, _, _, _, _, _), _, rfl, same_lk rfl (same_rfl), ⟨rfl, trivial⟩, ⟨hcut, Sl.wide (Ow.sl hS2) (by omega) (by omega), ⟨Sl.wide hT3 (by omega) (by omega), fun r hr => Sl.wide (hR3.row r hr) (by omega) (by omega)⟩, by first | exact hb15 | simpa using hb15 | (rw [hlt]; exact hb15), hS2.lenLe, by first | omega | (simp; omega), by first | omega | (simp; omega)⟩⟩
              ·
                try simp only [decide_eq_true_eq, decide_eq_false_iff_not, Bool.not_eq_true', Bool.not_eq_false', Bool.and_eq_true, Bool.or_eq_true, Bool.or_eq_false_iff, Bool.cond_true_right, Bool.cond_false_right, Bool.cond_true_left, Bool.cond_false_left, ne_eq, Decidable.not_not, bne_iff_ne, beq_iff_eq, beq_eq_false_iff_ne, Bool.not_true, Bool.not_false] at hc5
                have hlt : (rows2.take j).length = j := by rw [List.length_take]; omega
                have hR3 := RwI.sub (rows' := rows2.take j) (RwI.of hO2.rs) (fun r hr => List.mem_of_mem_take hr)
                have hT3 := (Ow.take hT2 j).sl
                have hcT := hT2.lenLe
                refine rg ?_
                refine st (y_fld fld46_1 rfl) ?_
                refine st (y_lb hb15 na44 rfl rfl) ?_
                refine st (mvI rfl) ?_
                refine st (y_slh sl44 rfl rfl (by omega) (by omega)) ?_
                refine st (y_fld fld46_1 rfl) ?_
                refine sd0 (d_st hb15 sz44 rfl rfl rfl (Nat.le_of_ble_eq_true rfl) ?_)
                intro w157 hs159 ho158 hb15'
                clear hb15; have hb15 := hb15'; clear hb15'
                have hz160 := ho158.size
                replace hL0 := hL0.out ho158 (by first | omega | (simp only [blk_some, hi1_some] at *; omega))
                replace hE := hE.step ho158 (by first | omega | (simp only [blk_some, hi1_some] at *; omega))
                replace hN := hN.out ho158 (by first | omega | (simp only [blk_some, hi1_some] at *; omega))
                replace hb11 := hb11.out ho158 (by first | omega | (simp only [blk_some, hi1_some] at *; omega))
                replace hQ := hQ.out ho158 (by first | omega | (simp only [blk_some, hi1_some] at *; omega))
                replace hW := hW.out ho158 (by first | omega | (simp only [blk_some, hi1_some] at *; omega))
                replace hb12 := hb12.out ho158 (by first | omega | (simp only [blk_some, hi1_some] at *; omega))
                replace hS2 := hS2.out ho158 (by first | omega | (simp only [blk_some, hi1_some] at *; omega))
                replace hcut := hcut.step ho158 (by first | omega | (simp only [blk_some, hi1_some] at *; omega))
                replace hT3 := hT3.out ho158 (by first | omega | (simp only [blk_some, hi1_some] at *; omega))
                replace hR3 := hR3.out ho158 (by first | omega | (simp only [blk_some, hi1_some] at *; omega))
                refine rg_end ?_
                refine n_blk ?_
                exact n_then ⟨(_, _, _, _, _, _), _, rfl, same_lk rfl (same_rfl), ⟨rfl, trivial⟩, ⟨hcut, Sl.wide (Ow.sl hS2) (by omega) (by omega), ⟨Sl.wide hT3 (by omega) (by omega), fun r hr => Sl.wide (hR3.row r hr) (by omega) (by omega)⟩, by first | exact hb15 | simpa using hb15 | (rw [hlt]; exact hb15), hS2.lenLe, by first | omega | (simp; omega), by first | omega | (simp; omega)⟩⟩
      ·
        try simp only [decide_eq_true_eq, decide_eq_false_iff_not, Bool.not_eq_true', Bool.not_eq_false', Bool.and_eq_true, Bool.or_eq_true, Bool.or_eq_false_iff, Bool.cond_true_right, Bool.cond_false_right, Bool.cond_true_left, Bool.cond_false_left, ne_eq, Decidable.not_not, bne_iff_ne, beq_iff_eq, beq_eq_false_iff_ne, Bool.not_true, Bool.not_false] at hc1
        have hT3 := hT2.sl
        have hR3 := RwI.of hO2.rs
        refine wp_skip ?_
        exact n_then ⟨(_, _, _, _, _, _), _, rfl, same_lk rfl (same_rfl), ⟨rfl, trivial⟩, ⟨hcut, Sl.wide (Ow.sl hS2) (by omega) (by omega), ⟨Sl.wide hT3 (by omega) (by omega), fun r hr => Sl.wide (hR3.row r hr) (by omega) (by omega)⟩, by first | exact hb15 | simpa using hb15 | (rw [hlt]; exact hb15), hS2.lenLe, by first | omega | (simp; omega), by first | omega | (simp; omega)⟩⟩
    ·
      rintro ⟨S3, as3, cs3, rows3, aw3, cw3⟩ hav_ w161 ⟨ho162, hS3, hW3, hb15, hcap3, hn3, hm3⟩
      have hz163 := ho162.size
      replace hL0 := hL0.out ho162 (by first | omega | (simp only [blk_some, hi1_some] at *; omega))
      replace hE := hE.step ho162 (by first | omega | (simp only [blk_some, hi1_some] at *; omega))
      replace hN := hN.out ho162 (by first | omega | (simp only [blk_some, hi1_some] at *; omega))
      replace hb11 := hb11.out ho162 (by first | omega | (simp only [blk_some, hi1_some] at *; omega))
      replace hQ := hQ.out ho162 (by first | omega | (simp only [blk_some, hi1_some] at *; omega))
      replace hW := hW.out ho162 (by first | omega | (simp only [blk_some, hi1_some] at *; omega))
      replace hb12 := hb12.out ho162 (by first | omega | (simp only [blk_some, hi1_some] at *; omega))
      refine wp_seq ?_
      refine rgD 17 (fun w_ => Ext w161 w_) (fun i => Nat.beq i 0 || Nat.beq i 4 || Nat.beq i 9 || Nat.beq i 15) mixed (by kernel_rfl) ?_
      intro w164 ho165 hs166
      refine ⟨ho165, ?_⟩
      have hx167 := ho165
      refine tc rfl cl16 (law18_awake_ok _) rfl ?_
      rintro v172 w168 ⟨rfl, ho169⟩
      have hx173 := hx167.step ho169 (.inl (Nat.le_refl _))
      have hz174 := ho169.size
      refine ⟨hx173, ?_⟩
      refine tn rfl (fun _ hG => mvB rfl) ?_
      refine tng rfl rfl rfl rfl (fun _ hG => y_lbN (hb11.ext hG) agg26 rfl) ?_
      refine tng rfl rfl rfl rfl (fun _ hG => y_lbN (hb12.ext hG) agg46 rfl) ?_
      refine tcg rfl rfl rfl rfl cl30 (law18_checks_ok N A _ _ (cfS N 65536) _ _ _ _ rows _ _ _ _ 65536 _ (hN.ext hx173) (hQ.ext hx173) hcq (by omega) (hW.ext hx173) (by omega)) rfl ?_
      rintro v179 w175 ⟨rfl, ho176⟩
      have hx180 := hx173.step ho176 (.inl (Nat.le_refl _))
      have hz181 := ho176.size
      refine ⟨hx180, ?_⟩
      refine tn rfl (fun _ hG => y_pickT rfl rfl (v := .bool _) rfl) ?_
      refine tn rfl (fun _ hG => mvB rfl) ?_
      refine tng rfl rfl rfl rfl (fun _ hG => y_lbN (hb11.ext hG) agg26 rfl) ?_
      refine tng rfl rfl rfl rfl (fun _ hG => y_lbN (hb15.ext hG) agg46 rfl) ?_
      refine tcg rfl rfl rfl rfl cl30 (law18_checks_ok N A _ _ S3 _ _ _ _ rows3 _ _ _ _ 65536 _ (hN.ext hx180) (hS3.ext hx180) hcap3 (by omega) (hW3.ext hx180) (by omega)) rfl ?_
      rintro v186 w182 ⟨rfl, ho183⟩
      have hx187 := hx180.step ho183 (.inl (Nat.le_refl _))
      have hz188 := ho183.size
      refine ⟨hx187, ?_⟩
      refine tn rfl (fun _ hG => y_pickT rfl rfl (v := .bool _) rfl) ?_
      refine tn rfl (fun _ hG => mvB rfl) ?_
      refine tng rfl rfl rfl rfl (fun _ hG => y_lbN (hb11.ext hG) agg26 rfl) ?_
      refine tng rfl rfl rfl rfl (fun _ hG => y_lbN (hb15.ext hG) agg46 rfl) ?_
      refine tng rfl rfl rfl rfl (fun _ hG => mvI rfl) ?_
      refine tcg rfl rfl rfl rfl cl20 (keep_Pick_ok _ _ _ (by omega) (by omega)) rfl ?_
      rintro v193 w189 ⟨rfl, ho190⟩
      have hpb := pick_rng bd 60 (by omega)
      have hx194 := hx187.step ho190 (.inl (Nat.le_refl _))
      have hz195 := ho190.size
      refine ⟨hx194, ?_⟩
      refine tng rfl rfl rfl rfl (fun _ hG => y_add rfl rfl (by omega)) ?_
      refine t_end ?_
      have hz196 := hx194.size
      replace hL0 := hL0.ext hx194
      replace hE := hE.step hx194 (.inl (Nat.le_refl _))
      replace hN := hN.ext hx194
      replace hb11 := hb11.ext hx194
      replace hQ := hQ.ext hx194
      replace hW := hW.ext hx194
      replace hb12 := hb12.ext hx194
      replace hS3 := hS3.ext hx194
      replace hW3 := hW3.ext hx194
      replace hb15 := hb15.ext hx194
      refine scg rfl rfl rfl cl30 (law18_checks_ok N A _ _ S3 _ _ _ _ rows3 _ _ _ _ (1 + pick bd 60) _ hN hS3 hcap3 (by omega) hW3 (by omega)) rfl ?_
      rintro v201 w197 ⟨rfl, ho198⟩
      have hz202 := ho198.size
      replace hL0 := hL0.ext ho198
      replace hE := hE.step ho198 (.inl (Nat.le_refl _))
      replace hN := hN.ext ho198
      replace hb11 := hb11.ext ho198
      replace hQ := hQ.ext ho198
      replace hW := hW.ext ho198
      replace hb12 := hb12.ext ho198
      replace hS3 := hS3.ext ho198
      replace hW3 := hW3.ext ho198
      replace hb15 := hb15.ext ho198
      refine st (y_pickT rfl rfl (v := .bool _) rfl) ?_
      refine st (asB rfl) ?_
      refine rg_end ?_
      refine n_then ?_
      refine wp_ret ?_
      refine ret1 (v := (.bool _)) Try.results8 rfl ?_
      exact ⟨rfl, hE⟩
end Go.Proofs.Ytclligkngjhihaa
