/-
  Walks of the functions, printed by a program out of the code and the loops' relations.
-/
import Derived.Test.YtclligkngjhihaaWkF
import Derived.Test.YtclligkngjhihaaProg
import Derived.KernelRfl
import Derived.Test.YtclligkngjhihaaB3
namespace Go.Proofs.Ytclligkngjhihaa
open Go.Wk Go.RowKit
set_option linter.unusedVariables false
set_option linter.unusedSimpArgs false
theorem bld26_0_1_2 (a0 : Int) (d1 : Option Addr) (l1 : Nat) (c1 : Nat) (d2 : Option Addr) (l2 : Nat) (c2 : Nat) (w : World) : (Instr.build 26 [(0, (.int .i64 a0)), (1, (.slice d1 l1 c1)), (2, (.slice d2 l2 c2))].toArray).run Try.prog w = .ok (.agg [(.int .i64 a0), (.slice d1 l1 c1), (.slice d2 l2 c2)].toArray) w := by kernel_rfl
theorem bld36_1_2_3_4 (a1 : Int) (a2 : Int) (a3 : Int) (a4 : Int) (w : World) : (Instr.build 36 [(1, (.int .i64 a1)), (2, (.int .i64 a2)), (3, (.int .i64 a3)), (4, (.int .i64 a4))].toArray).run Try.prog w = .ok (.agg [.int .i64 0, (.int .i64 a1), (.int .i64 a2), (.int .i64 a3), (.int .i64 a4), .int .i64 0].toArray) w := by kernel_rfl
theorem bsl22_1 (a0 : Int) (w : World) : (Instr.buildSlice 22 1 [(0, (.int .i64 a0))].toArray).run Try.prog w = .ok (.slice (some ⟨w.heap.size, 0, none⟩) 1 1) (w.alloc (.cells [(.int .i64 a0)].toArray 3)) := by kernel_rfl
theorem bsl24_3 (a0_0 : Int) (a0_1 : Int) (a0_2 : Int) (a0_3 : Int) (a0_4 : Int) (a0_5 : Int) (a1_0 : Int) (a1_1 : Int) (a1_2 : Int) (a1_3 : Int) (a1_4 : Int) (a1_5 : Int) (a2_0 : Int) (a2_1 : Int) (a2_2 : Int) (a2_3 : Int) (a2_4 : Int) (a2_5 : Int) (w : World) : (Instr.buildSlice 24 3 [(0, (.agg #[(.int .i64 a0_0), (.int .i64 a0_1), (.int .i64 a0_2), (.int .i64 a0_3), (.int .i64 a0_4), (.int .i64 a0_5)])), (1, (.agg #[(.int .i64 a1_0), (.int .i64 a1_1), (.int .i64 a1_2), (.int .i64 a1_3), (.int .i64 a1_4), (.int .i64 a1_5)])), (2, (.agg #[(.int .i64 a2_0), (.int .i64 a2_1), (.int .i64 a2_2), (.int .i64 a2_3), (.int .i64 a2_4), (.int .i64 a2_5)]))].toArray).run Try.prog w = .ok (.slice (some ⟨w.heap.size, 0, none⟩) 3 3) (w.alloc (.cells [(.int .i64 a0_0), (.int .i64 a0_1), (.int .i64 a0_2), (.int .i64 a0_3), (.int .i64 a0_4), (.int .i64 a0_5), (.int .i64 a1_0), (.int .i64 a1_1), (.int .i64 a1_2), (.int .i64 a1_3), (.int .i64 a1_4), (.int .i64 a1_5), (.int .i64 a2_0), (.int .i64 a2_1), (.int .i64 a2_2), (.int .i64 a2_3), (.int .i64 a2_4), (.int .i64 a2_5)].toArray 36)) := by kernel_rfl
theorem cl12 : Callable Try.prog 12 := ⟨Try.call12⟩
theorem cl13 : Callable Try.prog 13 := ⟨Try.call13⟩
theorem cl14 : Callable Try.prog 14 := ⟨Try.call14⟩
theorem cl15 : Callable Try.prog 15 := ⟨Try.call15⟩
theorem cl16 : Callable Try.prog 16 := ⟨Try.call16⟩
theorem cl17 : Callable Try.prog 17 := ⟨Try.call17⟩
theorem cl31 : Callable Try.prog 31 := ⟨Try.call31⟩
set_option maxRecDepth 100000 in
theorem info34 : ∃ i, Try.prog.info? 34 = some i ∧ i.zero = some (.agg #[.int .i64 0, .int .i64 0, .int .i64 0]) ∧ i.size = 3 ∧ i.bytes = 24 := ⟨Try.t34, Try.type34, rfl, rfl, rfl⟩
set_option maxRecDepth 100000 in
theorem infoz3 : ∃ i, Try.prog.info? 3 = some i ∧ i.zero = some (.int .i64 0) ∧ i.size = 1 ∧ i.bytes = 8 ∧ (Value.cells (.int .i64 0)).size = 1 := ⟨Try.t3, Try.type3, rfl, rfl, rfl, rfl⟩

def smN : Net := ⟨10, List.replicate 2 ⟨0, 0, 0⟩, [⟨0, 0, 1, 2, 3, 0⟩, ⟨0, 0, 1, 5, 6, 0⟩, ⟨0, 1, 0, 0, 9, 0⟩]⟩
theorem sm_facts : subE smN [1] = 0 ∧ (subM smN [1]).acts.length = 1 ∧ (subM smN [1]).p = 10 := by
  refine ⟨?_, ?_, ?_⟩ <;> kernel_rfl

set_option maxRecDepth 100000 in
theorem law18_small_ok (w : World) : Cal Try.prog 31 [] w (fun v w' => ∃ A, v = netV smN A ∧ NetIn w.heap.size w'.heap.size w' smN A ∧ Ext w w') := by
 have hE : Out 0 0 w w := Out.refl _ _ w
 refine enter Try.func31 rfl Try.ntmps31 rfl ?_
 refine wp_seq ?_
 refine rg ?_
 refine sd (d_allocA zer26 ?_)
 intro b0 w1 hbb0 hs3 ho2 hb0
 have hz4 := ho2.size
 replace hE := hE.step ho2 (.inl (Nat.le_refl _))
 refine rg_end ?_
 refine n_then ?_
 refine wp_seq ?_
 refine rg ?_
 refine sd (d_make (m := 2) (lo := w.heap.size) (enc := encEv) (e0 := (⟨0, 0, 0⟩ : Ev)) sl23 info34 (fun _ => rfl) rfl rfl rfl (by omega) (by unfold maxLen; omega) (by omega) ?_)
 intro be w5 hbbe hs7 ho6 hev
 have hz9 := ho6.size
 replace hE := hE.step ho6 (.inl (Nat.le_refl _))
 replace hb0 := hb0.ext ho6
 refine st (y_build (bld36_1_2_3_4 _ _ _ _ _) rfl) ?_
 refine st (y_build (bld36_1_2_3_4 _ _ _ _ _) rfl) ?_
 refine st (y_build (bld36_1_2_3_4 _ _ _ _ _) rfl) ?_
 refine sd (d_bs (bsl24_3 _ _ _ _ _ _ _ _ _ _ _ _ _ _ _ _ _ _ _) rfl ?_)
 intro ba w10 hbba hs12 ho11 hba
 have hac : Sl encAc 6 ba (ba + 1) w10 (some ⟨ba, 0, none⟩) smN.acts := Blk.sl (l := smN.acts) hba (fun _ => rfl) (Nat.le_refl _) (Nat.lt_succ_self _)
 have hz13 := ho11.size
 replace hE := hE.step ho11 (.inl (Nat.le_refl _))
 replace hb0 := hb0.ext ho11
 replace hev := hev.ext ho11
 refine st (y_build (bld26_0_1_2 _ _ _ _ _ _ _ _) rfl) ?_
 refine sd0 (d_stN hb0 rfl rfl sz26 rfl rfl ?_)
 intro w14 hs16 ho15 hb0'
 clear hb0; have hb0 := hb0'; clear hb0'
 have hz17 := ho15.size
 replace hE := hE.step ho15 (by first | omega | (simp only [blk_some, hi1_some] at *; omega))
 have hrnhev := hev.rng
 replace hev := hev.out ho15 (by first | omega | (simp only [blk_some, hi1_some] at *; omega))
 replace hac := hac.out ho15 (by first | omega | (simp only [blk_some, hi1_some] at *; omega))
 refine rg_end ?_
 refine n_then ?_
 refine wp_ret ?_
 refine retC Try.results31 hb0 agg26 rfl ?_
 exact ⟨⟨some ⟨be, 0, none⟩, 2, some ⟨ba, 0, none⟩, 3⟩, rfl, ⟨Sl.wide hev.sl (by omega) (by omega), Sl.wide hac (by omega) (by omega)⟩, hE⟩

set_option maxRecDepth 100000 in
theorem law18_awake_ok (w : World) : Cal Try.prog 16 [] w (fun v w' => v = .bool true ∧ Ext w w') := by
 obtain ⟨q1, q2, q3⟩ := sm_facts
 have hE : Out 0 0 w w := Out.refl _ _ w
 refine enter Try.func16 rfl Try.ntmps16 rfl ?_
 refine wp_seq ?_
 refine rg ?_
 refine st (asB rfl) ?_
 refine rg_end ?_
 refine n_then ?_
 refine wp_seq ?_
 refine rg ?_
 refine sc cl31 (law18_small_ok _) rfl ?_
 rintro v5 w1 ⟨A0, rfl, hN0, ho2⟩
 have hz6 := ho2.size
 replace hE := hE.step ho2 (.inl (Nat.le_refl _))
 refine sd (d_bs (bsl22_1 _ _) rfl ?_)
 intro bs w7 hbbs hs9 ho8 hbs
 have hS : Sl encI 1 bs (bs + 1) w7 (some ⟨bs, 0, none⟩) [(1 : Int)] := Blk.sl (l := [(1 : Int)]) hbs (fun _ => rfl) (Nat.le_refl _) (Nat.lt_succ_self _)
 have hz10 := ho8.size
 replace hE := hE.step ho8 (.inl (Nat.le_refl _))
 replace hN0 := hN0.ext ho8
 refine sc cl13 (contradiction_Subset_ok smN A0 _ _ [1] _ _ _ _ _ hN0 hS (by decide)) rfl ?_
 rintro v15 w11 ⟨A2, rfl, hM, ho12⟩
 have hz16 := ho12.size
 replace hE := hE.step ho12 (.inl (Nat.le_refl _))
 replace hN0 := hN0.ext ho12
 replace hS := hS.ext ho12
 refine st (mvT rfl) ?_
 refine st (y_ext rfl rfl) ?_
 refine st (y_ext rfl rfl) ?_
 refine sd (d_allocA zer26 ?_)
 intro b1 w17 hbb1 hs19 ho18 hb1
 have hz20 := ho18.size
 replace hE := hE.step ho18 (.inl (Nat.le_refl _))
 replace hN0 := hN0.ext ho18
 replace hS := hS.ext ho18
 replace hM := hM.ext ho18
 refine sd0 (d_stN hb1 rfl rfl sz26 rfl rfl ?_)
 intro w21 hs23 ho22 hb1'
 clear hb1; have hb1 := hb1'; clear hb1'
 have hz24 := ho22.size
 replace hE := hE.step ho22 (by first | omega | (simp only [blk_some, hi1_some] at *; omega))
 replace hN0 := hN0.out ho22 (by first | omega | (simp only [blk_some, hi1_some] at *; omega))
 replace hS := hS.out ho22 (by first | omega | (simp only [blk_some, hi1_some] at *; omega))
 replace hM := hM.out ho22 (by first | omega | (simp only [blk_some, hi1_some] at *; omega))
 refine st (asI rfl) ?_
 refine rg_end ?_
 refine n_then ?_
 refine wp_seq ?_
 refine rg ?_
 refine st (mvI rfl) ?_
 refine st (y_eql rfl rfl) ?_
 refine st (mvB rfl) ?_
 refine stg rfl rfl (decide_eq_true q1) (y_fld fld26_2 rfl) ?_
 refine stg rfl rfl (decide_eq_true q1) (y_lb hb1 na24 rfl rfl) ?_
 refine stg rfl rfl (decide_eq_true q1) (y_len Try.underlying24 rfl) ?_
 refine stg rfl rfl (decide_eq_true q1) (y_eql rfl rfl) ?_
 refine st (y_pickT rfl (decide_eq_true q1) (v := .bool _) rfl) ?_
 refine st (mvB rfl) ?_
 refine stg rfl rfl (decide_eq_true (by rw [q2]; rfl)) (y_fld fld26_0 rfl) ?_
 refine stg rfl rfl (decide_eq_true (by rw [q2]; rfl)) (y_lb hb1 na3 rfl rfl) ?_
 refine stg rfl rfl (decide_eq_true (by rw [q2]; rfl)) (y_eql rfl rfl) ?_
 refine st (y_pickT rfl (decide_eq_true (by rw [q2]; rfl)) (v := .bool _) rfl) ?_
 refine st (asB rfl) ?_
 refine rg_end ?_
 refine n_then ?_
 refine wp_ret ?_
 refine ret1 (v := (.bool _)) Try.results16 rfl ?_
 exact ⟨by rw [q3]; rfl, hE⟩

set_option maxHeartbeats 1000000 in
set_option maxRecDepth 100000 in
theorem law18_ContradictionSubset_ok (a0 : Option Addr) (c0 : Nat) (l0 : List Int) (a1 : Option Addr) (c1 : Nat) (l1 : List Int) (pk : Int) (w : World) (hL0 : Ints 0 w.heap.size w a0 l0) (hl0 : (l0.length : Int) ≤ 9223372036854775807) (hL1 : Ints 0 w.heap.size w a1 l1) (hl1 : (l1.length : Int) ≤ 9223372036854775807)  : Cal Try.prog 3 [.slice a0 l0.length c0, .slice a1 l1.length c1, .int .i64 pk] w (fun v w' => v = .bool true ∧ Ext w w') := by
 have hE : Out 0 0 w w := Out.refl _ _ w
 refine enter Try.func3 rfl Try.ntmps3 rfl ?_
 refine wp_seq ?_
 refine rg ?_
 refine st (asB rfl) ?_
 refine rg_end ?_
 refine n_then ?_
 refine wp_seq ?_
 refine rg ?_
 refine st (mvS rfl) ?_
 refine sc cl12 (keep_Slack_ok _ _ _ _ _ _ hL0 hl0) rfl ?_
 rintro v5 w1 ⟨N, A, rfl, hsm, hN, ho2⟩
 obtain ⟨hok, hp2, hp9, hev1, hev5, hac8, hmnn⟩ := hsm
 have hz6 := ho2.size
 replace hL0 := hL0.ext ho2
 replace hL1 := hL1.ext ho2
 replace hE := hE.step ho2 (.inl (Nat.le_refl _))
 refine sd (d_allocA zer26 ?_)
 intro b7 w7 hbb7 hs9 ho8 hb7
 have hz10 := ho8.size
 replace hL0 := hL0.ext ho8
 replace hL1 := hL1.ext ho8
 replace hE := hE.step ho8 (.inl (Nat.le_refl _))
 replace hN := hN.ext ho8
 refine sd0 (d_stN hb7 rfl rfl sz26 rfl rfl ?_)
 intro w11 hs13 ho12 hb7'
 clear hb7; have hb7 := hb7'; clear hb7'
 have hz14 := ho12.size
 replace hL0 := hL0.out ho12 (by first | omega | (simp only [blk_some, hi1_some] at *; omega))
 replace hL1 := hL1.out ho12 (by first | omega | (simp only [blk_some, hi1_some] at *; omega))
 replace hE := hE.step ho12 (by first | omega | (simp only [blk_some, hi1_some] at *; omega))
 replace hN := hN.out ho12 (by first | omega | (simp only [blk_some, hi1_some] at *; omega))
 refine rg_end ?_
 refine n_then ?_
 refine wp_seq ?_
 refine rg ?_
 refine st (asS rfl) ?_
 refine rg_end ?_
 refine n_then ?_
 refine wp_seq ?_
 refine wp_seq ?_
 refine rg ?_
 refine st (y_fld fld26_2 rfl) ?_
 refine st (y_lb hb7 na24 rfl rfl) ?_
 refine st (y_len Try.underlying24 rfl) ?_
 refine st (mvI rfl) ?_
 refine rg_end ?_
 refine n_then ?_
 refine wp_block ?_
 obtain ⟨z2, hz2⟩ : ∃ z, z = w11.heap.size := ⟨_, rfl⟩
 refine lp (γ := Nat × List Int × Option Addr × Nat) [8, 9, 19, 20, 21, 22, 23, 24, 25, 26, 27, 28, 29, 30, 31, 32] (fun ⟨k, s, as_, cs⟩ => [(19, .int .i64 (k : Int)), (8, .slice as_ s.length cs)]) (fun ⟨k, s, as_, cs⟩ w_ => Ext w11 w_ ∧ (k : Int) ≤ N.acts.length ∧ ascB (k : Int) (-1) s = true ∧ Ow 3 encI 1 z2 w_.heap.size w_ as_ cs s) (fun ⟨k, s, as_, cs⟩ => N.acts.length - k) (0, [], none, 0) ⟨rfl, rfl, trivial⟩ ⟨Out.refl _ _ _, by simp, rfl, Ow.nil (fun _ => rfl)⟩ ?_
 rintro ⟨k, s, as_, cs⟩ hav_ w15 ⟨ho16, hk, hasc, hset⟩
 have hlp0 := ho16
 have hz17 := ho16.size
 replace hL0 := hL0.ext ho16
 replace hL1 := hL1.ext ho16
 replace hE := hE.step ho16 (.inl (Nat.le_refl _))
 replace hN := hN.ext ho16
 replace hb7 := hb7.ext ho16
 refine wp_seq ?_
 refine rg ?_
 refine st (y_lss rfl rfl) ?_
 refine rg_end ?_
 refine n_then ?_
 refine wp_seq ?_
 refine cnd rfl (fun hc0 => ?_) (fun hc0 => ?_)
 ·
  try simp only [nm] at hc0
  have hlen := asc_len s (-1) hasc (by omega)
  refine wp_skip ?_
  refine n_then ?_
  refine wp_seq ?_
  refine wp_block ?_
  refine wp_seq ?_
  refine rg ?_
  refine st (mvI rfl) ?_
  refine st (asI rfl) ?_
  refine rg_end ?_
  refine n_then ?_
  refine wp_seq ?_
  refine rg ?_
  refine st (mvI rfl) ?_
  refine st (mvI rfl) ?_
  refine st (y_conv rfl rfl Try.underlying28) ?_
  refine st (y_shr rfl rfl (u64_nn _)) ?_
  refine st (y_and rfl rfl) ?_
  refine st (y_eql rfl rfl) ?_
  refine rg_end ?_
  refine n_then ?_
  refine cnd rfl (fun hc1 => ?_) (fun hc1 => ?_)
  ·
   have hasc1 := asc_snoc s (-1) hasc (by omega)
   refine rg ?_
   refine st (mvS rfl) ?_
   refine st (mvI rfl) ?_
   refine sd (d_bs (bsl22_1 _ _) rfl ?_)
   intro bl21 w18 hbbl21 hs20 ho19 hbl21
   have hz22 := ho19.size
   replace hL0 := hL0.ext ho19
   replace hL1 := hL1.ext ho19
   replace hE := hE.step ho19 (.inl (Nat.le_refl _))
   replace hN := hN.ext ho19
   replace hb7 := hb7.ext ho19
   replace hset := hset.ext ho19
   replace hlp0 := hlp0.step ho19 (.inl (Nat.le_refl _))
   have hrhset := hset.rng
   refine sd (d_app (xs := [(k : Int)]) hset sl22 infoz3 (by decide) rfl rfl rfl rfl (hbl21) (fun _ => rfl) (by simp; unfold maxLen; omega) (by simp; omega) (by omega) (by omega) ?_)
   intro as1 cs1 w23 ho24 hset'
   have hs25 := ho24.size
   clear hset; have hset := hset'; clear hset'
   have hz28 := ho24.size
   replace hL0 := hL0.out ho24 (by first | omega | (simp only [blk_some, hi1_some] at *; omega))
   replace hL1 := hL1.out ho24 (by first | omega | (simp only [blk_some, hi1_some] at *; omega))
   replace hE := hE.step ho24 (by first | omega | (simp only [blk_some, hi1_some] at *; omega))
   replace hN := hN.out ho24 (by first | omega | (simp only [blk_some, hi1_some] at *; omega))
   replace hb7 := hb7.out ho24 (by first | omega | (simp only [blk_some, hi1_some] at *; omega))
   replace hlp0 := hlp0.step ho24 (by first | omega | (simp only [blk_some, hi1_some] at *; omega))
   refine st (asS rfl) ?_
   refine rg_end ?_
   refine n_blk ?_
   refine n_then ?_
   refine rg ?_
   refine st (y_add rfl rfl (by omega)) ?_
   refine st (mvI rfl) ?_
   refine rg_end ?_
   exact n_then ⟨(k + 1, _, _, _), _, rfl, same_lk rfl (same_h0), ⟨rfl, rfl, trivial⟩, ⟨hlp0, by omega, hasc1, hset.wide (by omega)⟩, by first | omega | (dsimp only; omega)⟩
  ·
   have hasc1 := asc_mono (by omega : (k : Int) ≤ k + 1) s (-1) hasc
   refine wp_skip ?_
   refine n_blk ?_
   refine n_then ?_
   refine rg ?_
   refine st (y_add rfl rfl (by omega)) ?_
   refine st (mvI rfl) ?_
   refine rg_end ?_
   exact n_then ⟨(k + 1, _, _, _), _, rfl, same_lk rfl (same_h0), ⟨rfl, rfl, trivial⟩, ⟨hlp0, by omega, hasc1, hset.wide (by omega)⟩, by first | omega | (dsimp only; omega)⟩
 ·
  try simp only [nm] at hc0
  have hkn : (k : Int) = N.acts.length := by omega
  rw [hkn] at hasc
  have hlen := asc_len s (-1) hasc (by omega)
  have hrg : ∀ a ∈ s, 0 ≤ a ∧ a < N.acts.length := fun a ha => by have := asc_rng s (-1) hasc a ha; omega
  refine wp_exit ?_
  refine e_then (e_then (e_blk (?_)))
  refine n_then ?_
  refine wp_seq ?_
  refine rg ?_
  refine st (y_lbN hb7 agg26 rfl) ?_
  refine st (mvS rfl) ?_
  refine sc cl13 (contradiction_Subset_ok N A _ _ s _ _ _ _ _ hN (Ow.sl hset) (by omega)) rfl ?_
  rintro v33 w29 ⟨A2, rfl, hM, ho30⟩
  obtain ⟨q1, q2⟩ := subE0 (netOk_iff.2 hok) hasc
  rw [q2] at hM
  rw [q1, q2]
  have hsl : (subN N s).acts.length = s.length := by simp [subN]
  have hz34 := ho30.size
  replace hL0 := hL0.ext ho30
  replace hL1 := hL1.ext ho30
  replace hE := hE.step ho30 (.inl (Nat.le_refl _))
  replace hN := hN.ext ho30
  replace hb7 := hb7.ext ho30
  replace hset := hset.ext ho30
  refine st (mvT rfl) ?_
  refine st (y_ext rfl rfl) ?_
  refine st (y_ext rfl rfl) ?_
  refine sd (d_allocA zer26 ?_)
  intro b10 w35 hbb10 hs37 ho36 hb10
  have hz38 := ho36.size
  replace hL0 := hL0.ext ho36
  replace hL1 := hL1.ext ho36
  replace hE := hE.step ho36 (.inl (Nat.le_refl _))
  replace hN := hN.ext ho36
  replace hb7 := hb7.ext ho36
  replace hset := hset.ext ho36
  replace hM := hM.ext ho36
  refine sd0 (d_stN hb10 rfl rfl sz26 rfl rfl ?_)
  intro w39 hs41 ho40 hb10'
  clear hb10; have hb10 := hb10'; clear hb10'
  have hz42 := ho40.size
  replace hL0 := hL0.out ho40 (by first | omega | (simp only [blk_some, hi1_some] at *; omega))
  replace hL1 := hL1.out ho40 (by first | omega | (simp only [blk_some, hi1_some] at *; omega))
  replace hE := hE.step ho40 (by first | omega | (simp only [blk_some, hi1_some] at *; omega))
  replace hN := hN.out ho40 (by first | omega | (simp only [blk_some, hi1_some] at *; omega))
  replace hb7 := hb7.out ho40 (by first | omega | (simp only [blk_some, hi1_some] at *; omega))
  have hrnhset := hset.rng
  replace hset := hset.out ho40 (by first | omega | (simp only [blk_some, hi1_some] at *; omega))
  replace hM := hM.out ho40 (by first | omega | (simp only [blk_some, hi1_some] at *; omega))
  refine st (asI rfl) ?_
  refine rg_end ?_
  refine n_then ?_
  refine wp_seq ?_
  refine wp_seq ?_
  refine rg ?_
  refine st (mvI rfl) ?_
  refine st (y_neq rfl rfl) ?_
  refine st (mvB rfl) ?_
  refine stg rfl rfl (by decide) (y_fld fld26_0 rfl) ?_
  refine stg rfl rfl (by decide) (y_lb hb10 na3 rfl rfl) ?_
  refine stg rfl rfl (by decide) (y_fld fld26_0 rfl) ?_
  refine stg rfl rfl (by decide) (y_lb hb7 na3 rfl rfl) ?_
  refine stg rfl rfl (by decide) (y_neq rfl rfl) ?_
  refine st (y_pickF rfl (by decide) (v := .bool _) rfl) ?_
  refine st (mvB rfl) ?_
  refine stg rfl rfl (decide_eq_false (not_not_intro rfl)) (y_fld fld26_1 rfl) ?_
  refine stg rfl rfl (decide_eq_false (not_not_intro rfl)) (y_lb hb10 na23 rfl rfl) ?_
  refine stg rfl rfl (decide_eq_false (not_not_intro rfl)) (y_fld fld26_1 rfl) ?_
  refine stg rfl rfl (decide_eq_false (not_not_intro rfl)) (y_lb hb7 na23 rfl rfl) ?_
  refine scg rfl rfl (decide_eq_false (not_not_intro rfl)) cl14 (keep_Same_Ev_ok (subN N s).evs N.evs _ _ _ _ _ _ _ _ _ hM.e hN.e (by have : (subN N s).evs.length = N.evs.length := rfl; omega)) rfl ?_
  rintro v47 w43 ⟨rfl, ho44⟩
  have hz48 := ho44.size
  replace hL0 := hL0.ext ho44
  replace hL1 := hL1.ext ho44
  replace hE := hE.step ho44 (.inl (Nat.le_refl _))
  replace hN := hN.ext ho44
  replace hb7 := hb7.ext ho44
  replace hset := hset.ext ho44
  replace hM := hM.ext ho44
  replace hb10 := hb10.ext ho44
  refine stg rfl rfl (decide_eq_false (not_not_intro rfl)) (y_not rfl) ?_
  refine st (y_pickF rfl (decide_eq_false (not_not_intro rfl)) (v := .bool _) rfl) ?_
  refine st (mvB rfl) ?_
  refine stg rfl rfl (show (!decide ((subN N s).evs = N.evs)) = false by simp [subN]) (y_fld fld26_2 rfl) ?_
  refine stg rfl rfl (show (!decide ((subN N s).evs = N.evs)) = false by simp [subN]) (y_lb hb10 na24 rfl rfl) ?_
  refine stg rfl rfl (show (!decide ((subN N s).evs = N.evs)) = false by simp [subN]) (y_len Try.underlying24 rfl) ?_
  refine stg rfl rfl (show (!decide ((subN N s).evs = N.evs)) = false by simp [subN]) (mvS rfl) ?_
  refine stg rfl rfl (show (!decide ((subN N s).evs = N.evs)) = false by simp [subN]) (y_len Try.underlying22 rfl) ?_
  refine stg rfl rfl (show (!decide ((subN N s).evs = N.evs)) = false by simp [subN]) (y_neq rfl rfl) ?_
  refine st (y_pickF rfl (show (!decide ((subN N s).evs = N.evs)) = false by simp [subN]) (v := .bool _) rfl) ?_
  refine rg_end ?_
  refine n_then ?_
  refine cnd rfl (fun hc2 => absurd ((decide_eq_false (not_not_intro (by rw [hsl]))).symm.trans hc2) (by decide)) (fun hc2 => ?_)
  refine wp_skip ?_
  refine n_then ?_
  refine wp_seq ?_
  refine wp_seq ?_
  refine rg ?_
  refine st (mvS rfl) ?_
  refine st (y_len Try.underlying22 rfl) ?_
  refine st (mvI rfl) ?_
  refine rg_end ?_
  refine n_then ?_
  refine wp_block ?_
  refine lp (γ := Nat) [6, 12, 66, 67, 68, 69, 70, 71, 72, 73, 74, 75, 76, 77, 78, 79, 80, 81, 82, 83] (fun j => [(66, .int .i64 (j : Int))]) (fun j w_ => Ext w43 w_ ∧ (j : Int) ≤ s.length) (fun j => s.length - j) 0 ⟨rfl, trivial⟩ ⟨Out.refl _ _ _, by omega⟩ ?_
  rintro j hav_ w49 ⟨ho50, hj⟩
  have hlp1 := ho50
  have hz51 := ho50.size
  replace hL0 := hL0.ext ho50
  replace hL1 := hL1.ext ho50
  replace hE := hE.step ho50 (.inl (Nat.le_refl _))
  replace hN := hN.ext ho50
  replace hb7 := hb7.ext ho50
  replace hset := hset.ext ho50
  replace hM := hM.ext ho50
  replace hb10 := hb10.ext ho50
  refine wp_seq ?_
  refine rg ?_
  refine st (y_lss rfl rfl) ?_
  refine rg_end ?_
  refine n_then ?_
  refine wp_seq ?_
  refine cnd rfl (fun hc3 => ?_) (fun hc3 => ?_)
  ·
   try simp only [nm] at hc3
   have hej : el (subN N s).acts (j : Int) = el N.acts (el s (j : Int)) := elMap (by omega) hc3
   have hrj := hrg _ (el_mem (l := s) (i := (j : Int)) (by omega) hc3)
   refine wp_skip ?_
   refine n_then ?_
   refine wp_seq ?_
   refine wp_block ?_
   refine wp_seq ?_
   refine rg ?_
   refine st (mvI rfl) ?_
   refine st (asI rfl) ?_
   refine rg_end ?_
   refine n_then ?_
   refine wp_seq ?_
   refine rgD 13 (fun w_ => Ext w49 w_) (fun i => false) mixed (by kernel_rfl) ?_
   intro w52 ho53 hs54
   refine ⟨ho53, ?_⟩
   have hx55 := ho53
   refine tn rfl (fun _ hG => y_fld fld26_2 rfl) ?_
   refine tn rfl (fun _ hG => y_lb (hb10.ext hG) na24 rfl rfl) ?_
   refine tn rfl (fun _ hG => mvI rfl) ?_
   refine tn rfl (fun _ hG => y_ix (hM.a.ext hG) sl24 rfl (rfl) rfl (by omega) (by omega)) ?_
   refine tn rfl (fun _ hG => y_lw (hM.a.ext hG) agg36 rfl (by omega) (by omega)) ?_
   refine tn rfl (fun _ hG => y_fld fld26_2 rfl) ?_
   refine tn rfl (fun _ hG => y_lb (hb7.ext hG) na24 rfl rfl) ?_
   refine tn rfl (fun _ hG => mvS rfl) ?_
   refine tn rfl (fun _ hG => mvI rfl) ?_
   refine tn rfl (fun _ hG => y_ix (hset.ext hG).sl sl22 rfl (rfl) rfl (by omega) (by omega)) ?_
   refine tn rfl (fun _ hG => y_le (hset.ext hG).sl na3 rfl (by omega) (by omega) rfl) ?_
   refine tn rfl (fun _ hG => y_ix (hN.a.ext hG) sl24 rfl (rfl) rfl (by omega) (by omega)) ?_
   refine tn rfl (fun _ hG => y_lw (hN.a.ext hG) agg36 rfl (by omega) (by omega)) ?_
   refine t_end ?_
   have hz56 := hx55.size
   replace hL0 := hL0.ext hx55
   replace hL1 := hL1.ext hx55
   replace hE := hE.step hx55 (.inl (Nat.le_refl _))
   replace hN := hN.ext hx55
   replace hb7 := hb7.ext hx55
   replace hset := hset.ext hx55
   replace hM := hM.ext hx55
   replace hb10 := hb10.ext hx55
   replace hlp1 := hlp1.step hx55 (.inl (Nat.le_refl _))
   refine st (y_neqS (eqAc _ _) eqg36 rfl rfl) ?_
   refine rg_end ?_
   refine n_then ?_
   refine cnd rfl (fun hc4 => absurd ((show (!decide (el (subN N s).acts (j : Int) = el N.acts (el s (j : Int)))) = false by rw [hej]; simp).symm.trans hc4) (by decide)) (fun hc4 => ?_)
   refine wp_skip ?_
   refine n_blk ?_
   refine n_then ?_
   refine rg ?_
   refine st (y_add rfl rfl (by omega)) ?_
   refine st (mvI rfl) ?_
   refine rg_end ?_
   exact n_then ⟨j + 1, _, rfl, same_lk rfl (same_h0), ⟨rfl, trivial⟩, ⟨hlp1, by omega⟩, by first | omega | (dsimp only; omega)⟩
  ·
   try simp only [nm] at hc3
   refine wp_exit ?_
   refine e_then (e_then (e_blk (?_)))
   refine n_then ?_
   refine wp_seq ?_
   refine rg ?_
   refine st (y_lbN hb7 agg26 rfl) ?_
   refine st (mvS rfl) ?_
   refine sc cl15 (keep_Times_ok N A _ _ _ _ _ _ _ _ hN hL1 hl1 (by omega) (by omega)) rfl ?_
   rintro v61 w57 ⟨ax, cx, x, rfl, hT, hxl, hxr, ho58⟩
   have hz62 := ho58.size
   replace hL0 := hL0.ext ho58
   replace hL1 := hL1.ext ho58
   replace hE := hE.step ho58 (.inl (Nat.le_refl _))
   replace hN := hN.ext ho58
   replace hb7 := hb7.ext ho58
   replace hset := hset.ext ho58
   replace hM := hM.ext ho58
   replace hb10 := hb10.ext ho58
   refine st (asS rfl) ?_
   refine rg_end ?_
   refine n_then ?_
   refine wp_seq ?_
   refine rg ?_
   refine sc cl16 (law18_awake_ok _) rfl ?_
   rintro v67 w63 ⟨rfl, ho64⟩
   have hz68 := ho64.size
   replace hL0 := hL0.ext ho64
   replace hL1 := hL1.ext ho64
   replace hE := hE.step ho64 (.inl (Nat.le_refl _))
   replace hN := hN.ext ho64
   replace hb7 := hb7.ext ho64
   replace hset := hset.ext ho64
   replace hM := hM.ext ho64
   replace hb10 := hb10.ext ho64
   replace hT := hT.ext ho64
   refine st (mvB rfl) ?_
   refine stg rfl rfl rfl (y_lbN hb7 agg26 rfl) ?_
   refine stg rfl rfl rfl (mvS rfl) ?_
   refine scg rfl rfl rfl cl17 (ref11_Feasible_ok N A _ _ x _ _ _ _ _ hN hT) rfl ?_
   rintro v73 w69 ⟨rfl, ho70⟩
   have hz74 := ho70.size
   replace hL0 := hL0.ext ho70
   replace hL1 := hL1.ext ho70
   replace hE := hE.step ho70 (.inl (Nat.le_refl _))
   replace hN := hN.ext ho70
   replace hb7 := hb7.ext ho70
   replace hset := hset.ext ho70
   replace hM := hM.ext ho70
   replace hb10 := hb10.ext ho70
   replace hT := hT.ext ho70
   refine stg rfl rfl rfl (y_not rfl) ?_
   refine stg rfl rfl rfl (mvB rfl) ?_
   refine gspL 93 rfl (fun hg75 => ?_) (fun hg75 => ?_)
   ·
    have hg75n := hg75; try simp only [nm] at hg75n
    refine sts rfl rfl hg75 ?_
    refine sts rfl rfl hg75 ?_
    refine sts rfl rfl hg75 ?_
    refine stg rfl rfl rfl (y_pickT rfl hg75 (v := .bool _) rfl) ?_
    refine st (y_pickT rfl rfl (v := .bool _) rfl) ?_
    refine st (asB rfl) ?_
    refine rg_end ?_
    refine n_then ?_
    refine wp_ret ?_
    refine ret1 (v := (.bool _)) Try.results3 rfl ?_
    exact ⟨by first | rfl | exact congrArg Value.bool (sub_feas hrg (by omega) hfe), hE⟩
   ·
    have hg75n := hg75; try simp only [nm] at hg75n
    have hfe : feas N x = true := by simpa using hg75
    refine stg rfl rfl hg75 (y_lbN hb10 agg26 rfl) ?_
    refine stg rfl rfl hg75 (mvS rfl) ?_
    refine scg rfl rfl hg75 cl17 (ref11_Feasible_ok (subN N s) A2 _ _ x _ _ _ _ _ hM hT) rfl ?_
    rintro v80 w76 ⟨rfl, ho77⟩
    have hz81 := ho77.size
    replace hL0 := hL0.ext ho77
    replace hL1 := hL1.ext ho77
    replace hE := hE.step ho77 (.inl (Nat.le_refl _))
    replace hN := hN.ext ho77
    replace hb7 := hb7.ext ho77
    replace hset := hset.ext ho77
    replace hM := hM.ext ho77
    replace hb10 := hb10.ext ho77
    replace hT := hT.ext ho77
    refine stg rfl rfl rfl (y_pickF rfl hg75 (v := .bool _) rfl) ?_
    refine st (y_pickT rfl rfl (v := .bool _) rfl) ?_
    refine st (asB rfl) ?_
    refine rg_end ?_
    refine n_then ?_
    refine wp_ret ?_
    refine ret1 (v := (.bool _)) Try.results3 rfl ?_
    exact ⟨by first | rfl | exact congrArg Value.bool (sub_feas hrg (by omega) hfe), hE⟩
end Go.Proofs.Ytclligkngjhihaa
