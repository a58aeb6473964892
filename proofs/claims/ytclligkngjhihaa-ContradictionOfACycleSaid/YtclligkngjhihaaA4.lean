/-
  Walks of the functions, printed by a program out of the code and the loops' relations.
-/
import Derived.Test.YtclligkngjhihaaWkD
import Derived.Test.YtclligkngjhihaaProg
import Derived.KernelRfl
import Derived.Test.YtclligkngjhihaaKeep
import Derived.Test.YtclligkngjhihaaA1
import Derived.Test.YtclligkngjhihaaA2
import Derived.Test.YtclligkngjhihaaA3
namespace Go.Proofs.Ytclligkngjhihaa
open Go.Wk Go.RowKit
set_option linter.unusedVariables false
set_option linter.unusedSimpArgs false
theorem bld100_0 (d0 : Option Addr) (l0 : Nat) (c0 : Nat) (w : World) : (Instr.build 100 [(0, (.slice d0 l0 c0))].toArray).run Try.prog w = .ok (.agg [(.slice d0 l0 c0), .int .i64 0].toArray) w := by kernel_rfl
theorem bld26_0 (a0 : Int) (w : World) : (Instr.build 26 [(0, (.int .i64 a0))].toArray).run Try.prog w = .ok (.agg [(.int .i64 a0), .slice none 0 0, .slice none 0 0].toArray) w := by kernel_rfl
theorem bld34_0_1_2 (a0 : Int) (a1 : Int) (a2 : Int) (w : World) : (Instr.build 34 [(0, (.int .i64 a0)), (1, (.int .i64 a1)), (2, (.int .i64 a2))].toArray).run Try.prog w = .ok (.agg [(.int .i64 a0), (.int .i64 a1), (.int .i64 a2)].toArray) w := by kernel_rfl
theorem bld36_0_1_5 (a0 : Int) (a1 : Int) (a5 : Int) (w : World) : (Instr.build 36 [(0, (.int .i64 a0)), (1, (.int .i64 a1)), (5, (.int .i64 a5))].toArray).run Try.prog w = .ok (.agg [(.int .i64 a0), (.int .i64 a1), .int .i64 0, .int .i64 0, .int .i64 0, (.int .i64 a5)].toArray) w := by kernel_rfl
theorem bsl23_1 (a0_0 : Int) (a0_1 : Int) (a0_2 : Int) (w : World) : (Instr.buildSlice 23 1 [(0, (.agg #[(.int .i64 a0_0), (.int .i64 a0_1), (.int .i64 a0_2)]))].toArray).run Try.prog w = .ok (.slice (some ⟨w.heap.size, 0, none⟩) 1 1) (w.alloc (.cells [(.int .i64 a0_0), (.int .i64 a0_1), (.int .i64 a0_2)].toArray 34)) := by kernel_rfl
theorem bsl24_1 (a0_0 : Int) (a0_1 : Int) (a0_2 : Int) (a0_3 : Int) (a0_4 : Int) (a0_5 : Int) (w : World) : (Instr.buildSlice 24 1 [(0, (.agg #[(.int .i64 a0_0), (.int .i64 a0_1), (.int .i64 a0_2), (.int .i64 a0_3), (.int .i64 a0_4), (.int .i64 a0_5)]))].toArray).run Try.prog w = .ok (.slice (some ⟨w.heap.size, 0, none⟩) 1 1) (w.alloc (.cells [(.int .i64 a0_0), (.int .i64 a0_1), (.int .i64 a0_2), (.int .i64 a0_3), (.int .i64 a0_4), (.int .i64 a0_5)].toArray 36)) := by kernel_rfl
theorem cl20 : Callable Try.prog 20 := ⟨Try.call20⟩
theorem cl37 : Callable Try.prog 37 := ⟨Try.call37⟩
theorem cl38 : Callable Try.prog 38 := ⟨Try.call38⟩
theorem fld100_0 : FieldOf Try.prog 100 0 0 := fun b o w => by simp [Instr.fieldAt, fieldPlace, Instr.sureAddr, Addr.add_lit]
theorem fld100_1 : FieldOf Try.prog 100 1 1 := fun b o w => by simp [Instr.fieldAt, fieldPlace, Instr.sureAddr, Addr.add_lit]
set_option maxRecDepth 100000 in
theorem info3 : ∃ i, Try.prog.info? 3 = some i ∧ i.zero = some (.int .i64 0) ∧ i.size = 1 ∧ i.bytes = 8 := ⟨Try.t3, Try.type3, rfl, rfl, rfl⟩
set_option maxRecDepth 100000 in
theorem infoz34 : ∃ i, Try.prog.info? 34 = some i ∧ i.zero = some (.agg #[.int .i64 0, .int .i64 0, .int .i64 0]) ∧ i.size = 3 ∧ i.bytes = 24 ∧ (Value.cells (.agg #[.int .i64 0, .int .i64 0, .int .i64 0])).size = 3 := ⟨Try.t34, Try.type34, rfl, rfl, rfl, rfl⟩
set_option maxRecDepth 100000 in
theorem infoz36 : ∃ i, Try.prog.info? 36 = some i ∧ i.zero = some (.agg #[.int .i64 0, .int .i64 0, .int .i64 0, .int .i64 0, .int .i64 0, .int .i64 0]) ∧ i.size = 6 ∧ i.bytes = 48 ∧ (Value.cells (.agg #[.int .i64 0, .int .i64 0, .int .i64 0, .int .i64 0, .int .i64 0, .int .i64 0])).size = 6 := ⟨Try.t36, Try.type36, rfl, rfl, rfl, rfl⟩
theorem na22 : NotAgg Try.prog 22 := Try.isAgg22
theorem sl23 : SliceOf Try.prog 23 34 3 := ⟨Try.underlying23, Try.sizeOf34⟩
theorem sz23 : SzOf Try.prog 23 1 := Try.sizeOf23
theorem sz24 : SzOf Try.prog 24 1 := Try.sizeOf24
theorem sz26 : SzOf Try.prog 26 3 := Try.sizeOf26
theorem sz3 : SzOf Try.prog 3 1 := Try.sizeOf3
theorem zer26 : ZeroOf Try.prog 26 (.agg [.int .i64 0, .slice none 0 0, .slice none 0 0].toArray) := Try.zeroValue26

set_option maxRecDepth 100000 in
theorem keep_Pick_ok (v n : Int) (w : World) (h1 : 1 ≤ n) (h2 : n ≤ 9223372036854775807) : Cal Try.prog 20 [.int .i64 v, .int .i64 n] w (fun r w' => r = .int .i64 (pick v n) ∧ Ext w w') := by
 have e2 : IntKind.u64.wrap n = n := IntWalk.u64_in n (by omega)
 have hE : Out 0 0 w w := Out.refl _ _ w
 refine enter Try.func20 rfl Try.ntmps20 rfl ?_
 refine wp_seq ?_
 refine rg ?_
 refine st (asI rfl) ?_
 refine rg_end ?_
 refine n_then ?_
 refine wp_seq ?_
 refine rg ?_
 refine st (mvI rfl) ?_
 refine st (y_conv rfl rfl Try.underlying28) ?_
 refine st (mvI rfl) ?_
 refine st (y_conv rfl rfl Try.underlying28) ?_
 refine st (y_rem rfl rfl (by rw [e2]; omega)) ?_
 refine st (y_conv rfl rfl Try.underlying3) ?_
 refine st (asI rfl) ?_
 refine rg_end ?_
 refine n_then ?_
 refine wp_ret ?_
 refine ret1 (v := (.int .i64 _)) Try.results20 rfl ?_
 exact ⟨vi (pick_run v n h1 h2), hE⟩

set_option maxRecDepth 100000 in
theorem keep_From_ok (al : Option Addr) (cl : Nat) (l : List Int) (lo hi : Nat) (w : World) (hL : Ints lo hi w al l) (hn : (l.length : Int) ≤ 9223372036854775807) : Cal Try.prog 37 [.slice al l.length cl] w (fun v w' => ∃ b, v = .pointer (some ⟨b, 0, none⟩) ∧ b = w.heap.size ∧ w'.heap.size = b + 1 ∧ Src lo hi b w' ∧ Ext w w') := by
 have hE : Out 0 0 w w := Out.refl _ _ w
 refine enter Try.func37 rfl Try.ntmps37 rfl ?_
 refine wp_seq ?_
 refine rg ?_
 refine st (asP rfl) ?_
 refine rg_end ?_
 refine n_then ?_
 refine wp_seq ?_
 refine rg ?_
 refine st (mvS rfl) ?_
 refine st (y_build (bld100_0 _ _ _ _) rfl) ?_
 refine sd (d_boxA rfl ?_)
 intro bl4 w1 hbbl4 hs3 ho2 hbl4
 have hz5 := ho2.size
 replace hL := hL.ext ho2
 replace hE := hE.step ho2 (.inl (Nat.le_refl _))
 refine st (asP rfl) ?_
 refine rg_end ?_
 refine n_then ?_
 refine wp_ret ?_
 refine ret1 (v := (.pointer _)) Try.results37 rfl ?_
 exact ⟨bl4, rfl, hbbl4, hs3, ⟨al, cl, l, 0, hbl4, hL, by omega, by omega, hn⟩, hE⟩

set_option maxRecDepth 100000 in
theorem keep_Next_ok (bs : Nat) (n : Int) (lo hi : Nat) (w : World) (hS : Src lo hi bs w) (hb : bs < lo ∨ hi ≤ bs) (h1 : 1 ≤ n) (h2 : n ≤ 9223372036854775807) : Cal Try.prog 38 [.pointer (some ⟨bs, 0, none⟩), .int .i64 n] w (fun v w' => ∃ r : Int, v = .int .i64 r ∧ 0 ≤ r ∧ r < n ∧ Src lo hi bs w' ∧ Out bs (bs + 1) w w') := by
 obtain ⟨al, cl, l, ps, hbs, hL, p0, p1, p2⟩ := hS
 have hbl := hbs.lt
 have hE : Out bs (bs + 1) w w := Out.refl _ _ w
 refine enter Try.func38 rfl Try.ntmps38 rfl ?_
 refine wp_seq ?_
 refine rg ?_
 refine st (asI rfl) ?_
 refine rg_end ?_
 refine n_then ?_
 refine wp_seq ?_
 refine wp_seq ?_
 refine rgD 9 (fun w_ => Ext w w_) (fun i => false) mixed (by kernel_rfl) ?_
 intro w1 ho2 hs3
 refine ⟨ho2, ?_⟩
 have hx4 := ho2
 refine tn rfl (fun _ hG => mvP rfl) ?_
 refine tn rfl (fun _ hG => y_nil rfl) ?_
 refine tn rfl (fun _ hG => y_fld fld100_1 rfl) ?_
 refine tn rfl (fun _ hG => y_lb (hbs.ext hG) na3 rfl rfl) ?_
 refine tn rfl (fun _ hG => mvP rfl) ?_
 refine tn rfl (fun _ hG => y_nil rfl) ?_
 refine tn rfl (fun _ hG => y_fld fld100_0 rfl) ?_
 refine tn rfl (fun _ hG => y_lb (hbs.ext hG) na22 rfl rfl) ?_
 refine tn rfl (fun _ hG => y_len Try.underlying22 rfl) ?_
 refine t_end ?_
 have hz5 := hx4.size
 replace hbs := hbs.ext hx4
 replace hL := hL.ext hx4
 replace hE := hE.step hx4 (.inl (Nat.le_refl _))
 refine st (y_geq rfl rfl) ?_
 refine rg_end ?_
 refine n_then ?_
 refine cnd rfl (fun hc0 => ?_) (fun hc0 => ?_)
 ·
  try simp only [nm] at hc0
  refine wp_seq ?_
  refine rg ?_
  refine st (asI rfl) ?_
  refine rg_end ?_
  refine n_then ?_
  refine wp_ret ?_
  refine r_then (ret1 (v := (.int .i64 _)) Try.results38 rfl ?_)
  exact ⟨0, rfl, by omega, by omega, ⟨al, cl, l, ps, hbs, hL, p0, p1, p2⟩, hE⟩
 ·
  try simp only [nm] at hc0
  refine wp_skip ?_
  refine n_then ?_
  refine wp_seq ?_
  refine rg ?_
  refine st (mvP rfl) ?_
  refine st (y_nil rfl) ?_
  refine st (y_fld fld100_1 rfl) ?_
  refine st (y_lb hbs na3 rfl rfl) ?_
  refine st (y_add rfl rfl (by omega)) ?_
  refine st (y_nil rfl) ?_
  refine st (y_fld fld100_1 rfl) ?_
  refine sd0 (d_st hbs sz3 rfl rfl rfl (Nat.le_of_ble_eq_true rfl) ?_)
  intro w6 hs8 ho7 hbs'
  clear hbs; have hbs := hbs'; clear hbs'
  have hz9 := ho7.size
  replace hL := hL.out ho7 (by first | omega | (simp only [blk_some, hi1_some] at *; omega))
  replace hE := hE.step ho7 (by first | omega | (simp only [blk_some, hi1_some] at *; omega))
  refine rg_end ?_
  refine n_then ?_
  refine wp_seq ?_
  refine rgD 12 (fun w_ => Ext w6 w_) (fun i => false) mixed (by kernel_rfl) ?_
  intro w10 ho11 hs12
  refine ⟨ho11, ?_⟩
  have hx13 := ho11
  refine tn rfl (fun _ hG => mvP rfl) ?_
  refine tn rfl (fun _ hG => y_nil rfl) ?_
  refine tn rfl (fun _ hG => y_fld fld100_0 rfl) ?_
  refine tn rfl (fun _ hG => y_lb (hbs.ext hG) na22 rfl rfl) ?_
  refine tn rfl (fun _ hG => mvP rfl) ?_
  refine tn rfl (fun _ hG => y_nil rfl) ?_
  refine tn rfl (fun _ hG => y_fld fld100_1 rfl) ?_
  refine tn rfl (fun _ hG => y_lb (hbs.ext hG) na3 rfl rfl) ?_
  refine tn rfl (fun _ hG => y_sub rfl rfl (by omega)) ?_
  refine tn rfl (fun _ hG => y_ix (hL.ext hG) sl22 rfl (rfl) rfl (by omega) (by omega)) ?_
  refine tn rfl (fun _ hG => y_le (hL.ext hG) na3 rfl (by omega) (by omega) rfl) ?_
  refine tn rfl (fun _ hG => mvI rfl) ?_
  refine t_end ?_
  have hz14 := hx13.size
  replace hbs := hbs.ext hx13
  replace hL := hL.ext hx13
  replace hE := hE.step hx13 (.inl (Nat.le_refl _))
  refine sc cl20 (keep_Pick_ok _ _ _ (by omega) (by omega)) rfl ?_
  rintro v19 w15 ⟨rfl, ho16⟩
  have hz20 := ho16.size
  replace hbs := hbs.ext ho16
  replace hL := hL.ext ho16
  replace hE := hE.step ho16 (.inl (Nat.le_refl _))
  refine st (asI rfl) ?_
  refine rg_end ?_
  refine n_then ?_
  refine wp_ret ?_
  refine ret1 (v := (.int .i64 _)) Try.results38 rfl ?_
  have hp := pick_rng (el l (ps + 1 - 1)) n h1
  exact ⟨_, rfl, hp.1, hp.2, ⟨al, cl, l, ps + 1, hbs, hL, by omega, by omega, p2⟩, hE⟩

set_option maxRecDepth 100000 in
theorem keep_Times_ok (N : Net) (A : NetA) (lo hi : Nat) (al : Option Addr) (cl : Nat) (l : List Int) (ll hl : Nat) (w : World) (hN : NetIn lo hi w N A) (hL : Ints ll hl w al l) (hn : (l.length : Int) ≤ 9223372036854775807) (hp : 1 ≤ N.p ∧ N.p ≤ 7200) (he : N.evs.length ≤ 48) : Cal Try.prog 15 [netV N A, .slice al l.length cl] w (fun v w' => ∃ ad c x, v = .slice ad x.length c ∧ Ints w.heap.size w'.heap.size w' ad x ∧ x.length = N.evs.length ∧ (∀ y ∈ x, 0 ≤ y ∧ y < N.p) ∧ Ext w w') := by
 replace hN := hN.full
 replace hL := Ints.full hL
 have hE : Out 0 0 w w := Out.refl _ _ w
 refine enter Try.func15 rfl Try.ntmps15 rfl ?_
 refine wp_seq ?_
 refine rg ?_
 refine sd (d_boxA rfl ?_)
 intro bl4 w1 hbbl4 hs3 ho2 hbl4
 have hz5 := ho2.size
 replace hN := hN.ext ho2
 replace hL := hL.ext ho2
 replace hE := hE.step ho2 (.inl (Nat.le_refl _))
 refine st (asS rfl) ?_
 refine rg_end ?_
 refine n_then ?_
 refine wp_seq ?_
 refine rg ?_
 refine st (mvS rfl) ?_
 refine sc cl37 (keep_From_ok _ _ _ _ _ _ hL hn) rfl ?_
 rintro v10 w6 ⟨bs, rfl, hbs, hzs, hS, ho7⟩
 have hz11 := ho7.size
 replace hN := hN.ext ho7
 replace hL := hL.ext ho7
 replace hE := hE.step ho7 (.inl (Nat.le_refl _))
 replace hbl4 := hbl4.ext ho7
 refine st (asP rfl) ?_
 refine rg_end ?_
 refine n_then ?_
 refine wp_seq ?_
 refine rg ?_
 refine st (y_fld fld26_1 rfl) ?_
 refine st (y_lb hbl4 na23 rfl rfl) ?_
 refine st (y_len Try.underlying23 rfl) ?_
 refine sd (d_make (lo := w.heap.size) (enc := encI) (e0 := 0) sl22 info3 (fun _ => rfl) rfl rfl rfl (by omega) (by unfold maxLen; omega) (by omega) ?_)
 intro blx w12 hbblx hs14 ho13 hm
 have hz16 := ho13.size
 replace hN := hN.ext ho13
 replace hL := hL.ext ho13
 replace hE := hE.step ho13 (.inl (Nat.le_refl _))
 replace hbl4 := hbl4.ext ho13
 replace hS := hS.ext ho13
 have hml : (List.replicate N.evs.length (0 : Int)).length = N.evs.length := List.length_replicate
 refine st (asS rfl) ?_
 refine rg_end ?_
 refine n_then ?_
 refine wp_seq ?_
 refine wp_seq ?_
 refine rg ?_
 refine st (mvS rfl) ?_
 refine st (y_len Try.underlying22 rfl) ?_
 refine st (mvI rfl) ?_
 refine rg_end ?_
 refine n_then ?_
 refine wp_block ?_
 refine lp (γ := Nat × List Int) [7, 16, 17, 18, 19, 20, 21, 22, 23, 24, 25, 26] (fun ⟨k, x⟩ => [(16, .int .i64 (k : Int))]) (fun ⟨k, x⟩ w_ => Out bs (blx + 1) w12 w_ ∧ (k : Int) ≤ N.evs.length ∧ x.length = N.evs.length ∧ RngTo N.p k x ∧ Src 0 w.heap.size bs w_ ∧ Ow 3 encI 1 w.heap.size (blx + 1) w_ (some ⟨blx, 0, none⟩) N.evs.length x) (fun ⟨k, x⟩ => N.evs.length - k) (0, List.replicate N.evs.length 0) ⟨rfl, trivial⟩ ⟨Out.refl _ _ _, by simp, hml, RngTo.zero _ _, hS, hm⟩ ?_
 rintro ⟨k, x⟩ hav_ w17 ⟨ho18, hk, hxl, hrg, hS, hm⟩
 have hlp0 := ho18
 have hz19 := ho18.size
 replace hN := hN.out ho18 (by first | omega | (simp only [blk_some, hi1_some] at *; omega))
 replace hL := hL.out ho18 (by first | omega | (simp only [blk_some, hi1_some] at *; omega))
 replace hE := hE.step ho18 (by first | omega | (simp only [blk_some, hi1_some] at *; omega))
 replace hbl4 := hbl4.out ho18 (by first | omega | (simp only [blk_some, hi1_some] at *; omega))
 refine wp_seq ?_
 refine rg ?_
 refine st (y_lss rfl rfl) ?_
 refine rg_end ?_
 refine n_then ?_
 refine wp_seq ?_
 refine cnd rfl (fun hc0 => ?_) (fun hc0 => ?_)
 ·
  try simp only [nm] at hc0
  refine wp_skip ?_
  refine n_then ?_
  refine wp_seq ?_
  refine wp_block ?_
  refine wp_seq ?_
  refine rg ?_
  refine st (mvI rfl) ?_
  refine st (asI rfl) ?_
  refine rg_end ?_
  refine n_then ?_
  refine rg ?_
  refine st (mvS rfl) ?_
  refine st (mvI rfl) ?_
  refine st (mvP rfl) ?_
  refine st (y_fld fld26_0 rfl) ?_
  refine st (y_lb hbl4 na3 rfl rfl) ?_
  refine sc cl38 (keep_Next_ok _ _ _ _ _ hS (by omega) (by omega) (by omega)) rfl ?_
  rintro v24 w20 ⟨r23, rfl, r_023, r_123, hS, ho21⟩
  have hz25 := ho21.size
  replace hN := hN.out ho21 (by first | omega | (simp only [blk_some, hi1_some] at *; omega))
  replace hL := hL.out ho21 (by first | omega | (simp only [blk_some, hi1_some] at *; omega))
  replace hE := hE.step ho21 (by first | omega | (simp only [blk_some, hi1_some] at *; omega))
  replace hbl4 := hbl4.out ho21 (by first | omega | (simp only [blk_some, hi1_some] at *; omega))
  have hrnhm := hm.rng
  replace hm := hm.out ho21 (by first | omega | (simp only [blk_some, hi1_some] at *; omega))
  replace hlp0 := hlp0.step ho21 (by first | omega | (simp only [blk_some, hi1_some] at *; omega))
  refine st (y_ix hm.sl sl22 rfl (hxl.symm) rfl (by omega) (by omega)) ?_
  refine sd0 (d_se (j := 0)  hm sz3 rfl rfl rfl (by omega) (by omega) (Nat.le_of_ble_eq_true rfl) rfl ?_)
  intro w26 hs28 ho27 hm'
  have hrhm := hm.rng
  clear hm; have hm := hm'; clear hm'
  have hz29 := ho27.size
  replace hN := hN.out ho27 (by first | omega | (simp only [blk_some, hi1_some] at *; omega))
  replace hL := hL.out ho27 (by first | omega | (simp only [blk_some, hi1_some] at *; omega))
  replace hE := hE.step ho27 (by first | omega | (simp only [blk_some, hi1_some] at *; omega))
  replace hbl4 := hbl4.out ho27 (by first | omega | (simp only [blk_some, hi1_some] at *; omega))
  replace hS := hS.out ho27 (by first | omega | (simp only [blk_some, hi1_some] at *; omega))
  replace hlp0 := hlp0.step ho27 (by first | omega | (simp only [blk_some, hi1_some] at *; omega))
  refine rg_end ?_
  refine n_blk ?_
  refine n_then ?_
  refine rg ?_
  refine st (y_add rfl rfl (by omega)) ?_
  refine st (mvI rfl) ?_
  refine rg_end ?_
  exact n_then ⟨(k + 1, _), _, rfl, same_lk rfl (same_h0), ⟨rfl, trivial⟩, ⟨hlp0, by omega, by simp [hxl], hrg.set (by omega) ‹_› ‹_›, hS, hm⟩, by first | omega | (dsimp only; omega)⟩
 ·
  try simp only [nm] at hc0
  refine wp_exit ?_
  refine e_then (e_then (e_blk (?_)))
  refine n_then ?_
  refine wp_seq ?_
  refine rg ?_
  refine st (mvS rfl) ?_
  refine st (asS rfl) ?_
  refine rg_end ?_
  refine n_then ?_
  refine wp_ret ?_
  refine ret1 (v := (.slice _ _ _)) Try.results15 rfl ?_
  exact ⟨_, _, x, by rw [hxl], Sl.wide hm.sl (Nat.le_refl _) (by omega), hxl, hrg.all (by omega), hE⟩

set_option maxHeartbeats 1000000 in
set_option maxRecDepth 100000 in
theorem keep_Network_ok (al : Option Addr) (cl : Nat) (l : List Int) (ll hl : Nat) (w : World) (hL : Ints ll hl w al l) (hn : (l.length : Int) ≤ 9223372036854775807) : Cal Try.prog 18 [.slice al l.length cl] w (fun v w' => ∃ N A, v = netV N A ∧ SmallNet N ∧ Ow 34 encEv 3 w.heap.size w'.heap.size w' A.ae A.ce N.evs ∧ Ow 36 encAc 6 w.heap.size w'.heap.size w' A.aa A.ca N.acts ∧ (hi1 A.ae ≤ blk A.aa ∨ hi1 A.aa = 0) ∧ Ext w w') := by
 replace hL := Ints.full hL
 have hE : Out 0 0 w w := Out.refl _ _ w
 refine enter Try.func18 rfl Try.ntmps18 rfl ?_
 refine wp_seq ?_
 refine rg ?_
 refine sd (d_allocA zer26 ?_)
 intro b2 w1 hbb2 hs3 ho2 hb2
 have hz4 := ho2.size
 replace hL := hL.ext ho2
 replace hE := hE.step ho2 (.inl (Nat.le_refl _))
 refine rg_end ?_
 refine n_then ?_
 refine wp_seq ?_
 refine rg ?_
 refine st (mvS rfl) ?_
 refine sc cl37 (keep_From_ok _ _ _ _ _ _ hL hn) rfl ?_
 rintro v9 w5 ⟨bs, rfl, hbs, hzs, hS, ho6⟩
 have hz10 := ho6.size
 replace hL := hL.ext ho6
 replace hE := hE.step ho6 (.inl (Nat.le_refl _))
 replace hb2 := hb2.ext ho6
 refine st (asP rfl) ?_
 refine rg_end ?_
 refine n_then ?_
 refine wp_seq ?_
 refine rg ?_
 refine st (mvP rfl) ?_
 refine sc cl38 (keep_Next_ok _ _ _ _ _ hS (by omega) (by omega) (by omega)) rfl ?_
 rintro v15 w11 ⟨pr, rfl, pr_0, pr_1, hS, ho12⟩
 have hz16 := ho12.size
 replace hL := hL.out ho12 (by first | omega | (simp only [blk_some, hi1_some] at *; omega))
 replace hE := hE.step ho12 (by first | omega | (simp only [blk_some, hi1_some] at *; omega))
 replace hb2 := hb2.out ho12 (by first | omega | (simp only [blk_some, hi1_some] at *; omega))
 refine st (y_add rfl rfl (by omega)) ?_
 refine st (y_build (bld26_0 _ _) rfl) ?_
 refine sd (d_allocA zer26 ?_)
 intro b4 w17 hbb4 hs19 ho18 hb4
 have hz20 := ho18.size
 replace hL := hL.ext ho18
 replace hE := hE.step ho18 (.inl (Nat.le_refl _))
 replace hb2 := hb2.ext ho18
 replace hS := hS.ext ho18
 refine sd0 (d_stN hb4 rfl rfl sz26 rfl rfl ?_)
 intro w21 hs23 ho22 hb4'
 clear hb4; have hb4 := hb4'; clear hb4'
 have hz24 := ho22.size
 replace hL := hL.out ho22 (by first | omega | (simp only [blk_some, hi1_some] at *; omega))
 replace hE := hE.step ho22 (by first | omega | (simp only [blk_some, hi1_some] at *; omega))
 replace hb2 := hb2.out ho22 (by first | omega | (simp only [blk_some, hi1_some] at *; omega))
 replace hS := hS.out ho22 (by first | omega | (simp only [blk_some, hi1_some] at *; omega))
 refine rg_end ?_
 refine n_then ?_
 refine wp_seq ?_
 refine wp_seq ?_
 refine rg ?_
 refine st (mvP rfl) ?_
 refine sc cl38 (keep_Next_ok _ _ _ _ _ hS (by omega) (by omega) (by omega)) rfl ?_
 rintro v29 w25 ⟨er, rfl, er_0, er_1, hS, ho26⟩
 have hz30 := ho26.size
 replace hL := hL.out ho26 (by first | omega | (simp only [blk_some, hi1_some] at *; omega))
 replace hE := hE.step ho26 (by first | omega | (simp only [blk_some, hi1_some] at *; omega))
 replace hb2 := hb2.out ho26 (by first | omega | (simp only [blk_some, hi1_some] at *; omega))
 replace hb4 := hb4.out ho26 (by first | omega | (simp only [blk_some, hi1_some] at *; omega))
 refine st (y_add rfl rfl (by omega)) ?_
 refine st (asI rfl) ?_
 refine rg_end ?_
 refine n_then ?_
 refine wp_block ?_
 obtain ⟨z0, hz0⟩ : ∃ z, z = w25.heap.size := ⟨_, rfl⟩
 refine lp (γ := List Ev × Option Addr × Nat × Int) [5, 18, 19, 20, 21, 22, 23, 24, 25, 26, 27, 28, 29, 30, 31, 32, 33, 34] (fun ⟨evs, ae, ce, k⟩ => [(5, .int .i64 k)]) (fun ⟨evs, ae, ce, k⟩ w_ => Out bs (b4 + 1) w25 w_ ∧ 0 ≤ k ∧ evs.length + k ≤ 5 ∧ 1 ≤ evs.length + k ∧ Src 0 w.heap.size bs w_ ∧ Blk w_ b4 [.int .i64 (2 + pr), .slice ae evs.length ce, .slice none 0 0] ∧ Ow 34 encEv 3 z0 w_.heap.size w_ ae ce evs) (fun ⟨evs, ae, ce, k⟩ => k.toNat) ([], none, 0, _) ⟨rfl, trivial⟩ ⟨Out.refl _ _ _, by omega, by simp; omega, by simp; omega, hS, hb4, Ow.nil (fun _ => rfl)⟩ ?_
 rintro ⟨evs, ae, ce, k⟩ hav_ w31 ⟨ho32, hk, hsum, hsum1, hS, hb4, hev⟩
 have hlp0 := ho32
 have hz33 := ho32.size
 replace hL := hL.out ho32 (by first | omega | (simp only [blk_some, hi1_some] at *; omega))
 replace hE := hE.step ho32 (by first | omega | (simp only [blk_some, hi1_some] at *; omega))
 replace hb2 := hb2.out ho32 (by first | omega | (simp only [blk_some, hi1_some] at *; omega))
 refine wp_seq ?_
 refine wp_seq ?_
 refine rg ?_
 refine st (mvI rfl) ?_
 refine st (y_gtr rfl rfl) ?_
 refine rg_end ?_
 refine n_then ?_
 refine cnd rfl (fun hc0 => ?_) (fun hc0 => ?_)
 ·
  try simp only [nm] at hc0
  refine wp_skip ?_
  refine n_then ?_
  refine wp_seq ?_
  refine wp_block ?_
  refine rgD 11 (fun w_ => Out bs (bs + 1) w31 w_) (fun i => Nat.beq i 3 || Nat.beq i 6 || Nat.beq i 8 || Nat.beq i 10) mixed (by kernel_rfl) ?_
  intro w34 ho35 hs36
  refine ⟨ho35.wide (.inl (Nat.le_refl _)), ?_⟩
  have hx37 := ho35.wide (a' := bs) (b' := (bs + 1)) (.inl (Nat.le_refl _))
  replace hS := hS.ext ho35
  refine tn rfl (fun _ hG => y_fld fld26_1 rfl) ?_
  refine tn rfl (fun _ hG => y_lb (hb4.out hG (by first | omega | (simp only [blk_some, hi1_some] at *; omega))) na23 rfl rfl) ?_
  refine tn rfl (fun _ hG => mvP rfl) ?_
  refine tc rfl cl38 (keep_Next_ok _ _ _ _ _ hS (by omega) (by omega) (by omega)) rfl ?_
  rintro v42 w38 ⟨e1, rfl, e1_0, e1_1, hS, ho39⟩
  have hx43 : Out bs (bs + 1) w31 w38 := hx37.step ho39 (by omega)
  have hz44 := ho39.size
  refine ⟨hx43, ?_⟩
  refine tn rfl (fun _ hG => y_add rfl rfl (by omega)) ?_
  refine tn rfl (fun _ hG => mvP rfl) ?_
  refine tc rfl cl38 (keep_Next_ok _ _ _ _ _ hS (by omega) (by omega) (by omega)) rfl ?_
  rintro v49 w45 ⟨e2, rfl, e2_0, e2_1, hS, ho46⟩
  have hx50 : Out bs (bs + 1) w31 w45 := hx43.step ho46 (by omega)
  have hz51 := ho46.size
  refine ⟨hx50, ?_⟩
  refine tn rfl (fun _ hG => mvP rfl) ?_
  refine tc rfl cl38 (keep_Next_ok _ _ _ _ _ hS (by omega) (by omega) (by omega)) rfl ?_
  rintro v56 w52 ⟨e3, rfl, e3_0, e3_1, hS, ho53⟩
  have hx57 : Out bs (bs + 1) w31 w52 := hx50.step ho53 (by omega)
  have hz58 := ho53.size
  refine ⟨hx57, ?_⟩
  refine tn rfl (fun _ hG => y_build (bld34_0_1_2 _ _ _ _) rfl) ?_
  refine td rfl (d_bs (bsl23_1 _ _ _ _) rfl ?_)
  intro bl62 w59 hbbl62 hs61 ho60 hbl62
  have hx63 := hx57.step ho60 (.inl (Nat.le_refl _))
  have hz64 := ho60.size
  replace hS := hS.ext ho60
  refine ⟨hx63, ?_⟩
  refine t_end ?_
  have hz65 := hx63.size
  replace hL := hL.out hx63 (by first | omega | (simp only [blk_some, hi1_some] at *; omega))
  replace hE := hE.step hx63 (by first | omega | (simp only [blk_some, hi1_some] at *; omega))
  replace hb2 := hb2.out hx63 (by first | omega | (simp only [blk_some, hi1_some] at *; omega))
  replace hb4 := hb4.out hx63 (by first | omega | (simp only [blk_some, hi1_some] at *; omega))
  have hrnhev := hev.rng
  replace hev := hev.out hx63 (by first | omega | (simp only [blk_some, hi1_some] at *; omega))
  replace hlp0 := hlp0.step hx63 (by first | omega | (simp only [blk_some, hi1_some] at *; omega))
  have hrhev := hev.rng
  refine sd (d_app (xs := [(⟨_, _, _⟩ : Ev)]) hev sl23 infoz34 (by decide) rfl rfl rfl rfl (hbl62) (fun _ => rfl) (by simp; unfold maxLen; omega) (by simp; omega) (by omega) (by omega) ?_)
  intro ae1 ce1 w66 ho67 hev'
  have hs68 := ho67.size
  clear hev; have hev := hev'; clear hev'
  have hz71 := ho67.size
  replace hL := hL.out ho67 (by first | omega | (simp only [blk_some, hi1_some] at *; omega))
  replace hE := hE.step ho67 (by first | omega | (simp only [blk_some, hi1_some] at *; omega))
  replace hb2 := hb2.out ho67 (by first | omega | (simp only [blk_some, hi1_some] at *; omega))
  replace hS := hS.out ho67 (by first | omega | (simp only [blk_some, hi1_some] at *; omega))
  replace hb4 := hb4.out ho67 (by first | omega | (simp only [blk_some, hi1_some] at *; omega))
  replace hlp0 := hlp0.step ho67 (by first | omega | (simp only [blk_some, hi1_some] at *; omega))
  refine st (y_fld fld26_1 rfl) ?_
  refine sd0 (d_st hb4 sz23 rfl rfl rfl (Nat.le_of_ble_eq_true rfl) ?_)
  intro w72 hs74 ho73 hb4'
  clear hb4; have hb4 := hb4'; clear hb4'
  have hz75 := ho73.size
  replace hL := hL.out ho73 (by first | omega | (simp only [blk_some, hi1_some] at *; omega))
  replace hE := hE.step ho73 (by first | omega | (simp only [blk_some, hi1_some] at *; omega))
  replace hb2 := hb2.out ho73 (by first | omega | (simp only [blk_some, hi1_some] at *; omega))
  replace hS := hS.out ho73 (by first | omega | (simp only [blk_some, hi1_some] at *; omega))
  replace hlp0 := hlp0.step ho73 (by first | omega | (simp only [blk_some, hi1_some] at *; omega))
  have hrnhev := hev.rng
  replace hev := hev.out ho73 (by first | omega | (simp only [blk_some, hi1_some] at *; omega))
  refine rg_end ?_
  refine n_blk ?_
  refine n_then ?_
  refine rg ?_
  refine st (mvI rfl) ?_
  refine st (y_sub rfl rfl (by omega)) ?_
  refine st (asI rfl) ?_
  refine rg_end ?_
  exact n_then ⟨(_, _, _, k - 1), _, rfl, same_lk rfl (same_h0), ⟨rfl, trivial⟩, ⟨hlp0, by omega, by simp; omega, by simp; omega, hS, hb4, hev.wide (by omega)⟩, by first | omega | (dsimp only; omega)⟩
 ·
  try simp only [nm] at hc0
  refine wp_exit ?_
  refine e_then (e_then (e_blk (?_)))
  refine n_then ?_
  refine wp_seq ?_
  refine rg ?_
  refine st (y_fld fld26_1 rfl) ?_
  refine st (y_lb hb4 na23 rfl rfl) ?_
  refine st (y_len Try.underlying23 rfl) ?_
  refine st (asI rfl) ?_
  refine rg_end ?_
  refine n_then ?_
  refine wp_seq ?_
  refine wp_seq ?_
  refine rg ?_
  refine st (mvP rfl) ?_
  refine sc cl38 (keep_Next_ok _ _ _ _ _ hS (by omega) (by omega) (by omega)) rfl ?_
  rintro v80 w76 ⟨kr, rfl, kr_0, kr_1, hS, ho77⟩
  have hz81 := ho77.size
  replace hL := hL.out ho77 (by first | omega | (simp only [blk_some, hi1_some] at *; omega))
  replace hE := hE.step ho77 (by first | omega | (simp only [blk_some, hi1_some] at *; omega))
  replace hb2 := hb2.out ho77 (by first | omega | (simp only [blk_some, hi1_some] at *; omega))
  replace hb4 := hb4.out ho77 (by first | omega | (simp only [blk_some, hi1_some] at *; omega))
  have hrnhev := hev.rng
  replace hev := hev.out ho77 (by first | omega | (simp only [blk_some, hi1_some] at *; omega))
  refine st (asI rfl) ?_
  refine rg_end ?_
  refine n_then ?_
  refine wp_block ?_
  obtain ⟨z1, hz1⟩ : ∃ z, z = w76.heap.size := ⟨_, rfl⟩
  replace hev := hev.wide (show _ ≤ z1 by omega)
  refine lp (γ := List Ac × Option Addr × Nat × Int) [7, 8, 40, 41, 42, 43, 44, 45, 46, 47, 48, 49, 50, 51, 52, 53, 54, 55, 56, 57, 58, 59, 60, 61, 62, 63, 64, 65, 66, 67, 68, 69, 70, 71, 72, 73, 74, 75, 76, 77, 78, 79, 80, 81, 82, 83, 84, 85, 86, 87, 88, 89, 90] (fun ⟨acts, aa, ca, k⟩ => [(7, .int .i64 k)]) (fun ⟨acts, aa, ca, k⟩ w_ => Out bs (b4 + 1) w76 w_ ∧ 0 ≤ k ∧ acts.length + k ≤ 8 ∧ (∀ a ∈ acts, AcOk ⟨2 + pr, evs, []⟩ a ∧ -9 ≤ a.mn ∧ a.mn ≤ 18) ∧ Src 0 w.heap.size bs w_ ∧ Blk w_ b4 [.int .i64 (2 + pr), .slice ae evs.length ce, .slice aa acts.length ca] ∧ Ow 36 encAc 6 z1 w_.heap.size w_ aa ca acts) (fun ⟨acts, aa, ca, k⟩ => k.toNat) ([], none, 0, _) ⟨rfl, trivial⟩ ⟨Out.refl _ _ _, by omega, by simp; omega, by simp, hS, hb4, Ow.nil (fun _ => rfl)⟩ ?_
  rintro ⟨acts, aa, ca, k⟩ hav_ w82 ⟨ho83, hk, hsum2, hoks, hS, hb4, hac⟩
  have hlp1 := ho83
  have hz84 := ho83.size
  replace hL := hL.out ho83 (by first | omega | (simp only [blk_some, hi1_some] at *; omega))
  replace hE := hE.step ho83 (by first | omega | (simp only [blk_some, hi1_some] at *; omega))
  replace hb2 := hb2.out ho83 (by first | omega | (simp only [blk_some, hi1_some] at *; omega))
  replace hev := hev.out ho83 (by first | omega | (simp only [blk_some, hi1_some] at *; omega))
  refine wp_seq ?_
  refine wp_seq ?_
  refine rg ?_
  refine st (mvI rfl) ?_
  refine st (y_gtr rfl rfl) ?_
  refine st (mvB rfl) ?_
  refine gspL 42 rfl (fun hg85 => ?_) (fun hg85 => ?_)
  ·
   have hg85n := hg85; try simp only [nm] at hg85n
   refine stg rfl rfl hg85 (mvI rfl) ?_
   refine stg rfl rfl hg85 (y_gtr rfl rfl) ?_
   refine st (y_pickT rfl hg85 (v := .bool _) rfl) ?_
   refine rg_end ?_
   refine n_then ?_
   refine cnd rfl (fun hc1 => ?_) (fun hc1 => ?_)
   ·
    try simp only [nm] at hc1
    refine wp_skip ?_
    refine n_then ?_
    refine wp_seq ?_
    refine wp_block ?_
    refine wp_seq ?_
    refine rg ?_
    refine st (mvP rfl) ?_
    refine sc cl38 (keep_Next_ok _ _ _ _ _ hS (by omega) (by omega) (by omega)) rfl ?_
    rintro v90 w86 ⟨a1, rfl, a1_0, a1_1, hS, ho87⟩
    have hz91 := ho87.size
    replace hL := hL.out ho87 (by first | omega | (simp only [blk_some, hi1_some] at *; omega))
    replace hE := hE.step ho87 (by first | omega | (simp only [blk_some, hi1_some] at *; omega))
    replace hb2 := hb2.out ho87 (by first | omega | (simp only [blk_some, hi1_some] at *; omega))
    replace hev := hev.out ho87 (by first | omega | (simp only [blk_some, hi1_some] at *; omega))
    replace hb4 := hb4.out ho87 (by first | omega | (simp only [blk_some, hi1_some] at *; omega))
    have hrnhac := hac.rng
    replace hac := hac.out ho87 (by first | omega | (simp only [blk_some, hi1_some] at *; omega))
    replace hlp1 := hlp1.step ho87 (by first | omega | (simp only [blk_some, hi1_some] at *; omega))
    refine st (y_add rfl rfl (by omega)) ?_
    refine st (mvP rfl) ?_
    refine st (mvI rfl) ?_
    refine sc cl38 (keep_Next_ok _ _ _ _ _ hS (by omega) (by omega) (by omega)) rfl ?_
    rintro v96 w92 ⟨a2, rfl, a2_0, a2_1, hS, ho93⟩
    have hz97 := ho93.size
    replace hL := hL.out ho93 (by first | omega | (simp only [blk_some, hi1_some] at *; omega))
    replace hE := hE.step ho93 (by first | omega | (simp only [blk_some, hi1_some] at *; omega))
    replace hb2 := hb2.out ho93 (by first | omega | (simp only [blk_some, hi1_some] at *; omega))
    replace hev := hev.out ho93 (by first | omega | (simp only [blk_some, hi1_some] at *; omega))
    replace hb4 := hb4.out ho93 (by first | omega | (simp only [blk_some, hi1_some] at *; omega))
    replace hac := hac.out ho93 (by first | omega | (simp only [blk_some, hi1_some] at *; omega))
    replace hlp1 := hlp1.step ho93 (by first | omega | (simp only [blk_some, hi1_some] at *; omega))
    refine st (mvP rfl) ?_
    refine sc cl38 (keep_Next_ok _ _ _ _ _ hS (by omega) (by omega) (by omega)) rfl ?_
    rintro v102 w98 ⟨a3, rfl, a3_0, a3_1, hS, ho99⟩
    have hz103 := ho99.size
    replace hL := hL.out ho99 (by first | omega | (simp only [blk_some, hi1_some] at *; omega))
    replace hE := hE.step ho99 (by first | omega | (simp only [blk_some, hi1_some] at *; omega))
    replace hb2 := hb2.out ho99 (by first | omega | (simp only [blk_some, hi1_some] at *; omega))
    replace hev := hev.out ho99 (by first | omega | (simp only [blk_some, hi1_some] at *; omega))
    replace hb4 := hb4.out ho99 (by first | omega | (simp only [blk_some, hi1_some] at *; omega))
    replace hac := hac.out ho99 (by first | omega | (simp only [blk_some, hi1_some] at *; omega))
    replace hlp1 := hlp1.step ho99 (by first | omega | (simp only [blk_some, hi1_some] at *; omega))
    refine st (y_build (bld36_0_1_5 _ _ _ _) rfl) ?_
    refine sd (d_allocA zer36 ?_)
    intro ba w104 hbba hs106 ho105 hba
    have hz107 := ho105.size
    replace hL := hL.ext ho105
    replace hE := hE.step ho105 (.inl (Nat.le_refl _))
    replace hb2 := hb2.ext ho105
    replace hev := hev.ext ho105
    replace hS := hS.ext ho105
    replace hb4 := hb4.ext ho105
    replace hac := hac.ext ho105
    replace hlp1 := hlp1.step ho105 (.inl (Nat.le_refl _))
    refine sd0 (d_stN hba rfl rfl sz36 rfl rfl ?_)
    intro w108 hs110 ho109 hba'
    clear hba; have hba := hba'; clear hba'
    have hz111 := ho109.size
    replace hL := hL.out ho109 (by first | omega | (simp only [blk_some, hi1_some] at *; omega))
    replace hE := hE.step ho109 (by first | omega | (simp only [blk_some, hi1_some] at *; omega))
    replace hb2 := hb2.out ho109 (by first | omega | (simp only [blk_some, hi1_some] at *; omega))
    replace hev := hev.out ho109 (by first | omega | (simp only [blk_some, hi1_some] at *; omega))
    replace hS := hS.out ho109 (by first | omega | (simp only [blk_some, hi1_some] at *; omega))
    replace hb4 := hb4.out ho109 (by first | omega | (simp only [blk_some, hi1_some] at *; omega))
    replace hac := hac.out ho109 (by first | omega | (simp only [blk_some, hi1_some] at *; omega))
    replace hlp1 := hlp1.step ho109 (by first | omega | (simp only [blk_some, hi1_some] at *; omega))
    refine rg_end ?_
    refine n_then ?_
    refine wp_seq ?_
    refine rgD 9 (fun w_ => Out bs (bs + 1) w108 w_) (fun i => Nat.beq i 6) mixed (by kernel_rfl) ?_
    intro w112 ho113 hs114
    refine ⟨ho113.wide (.inl (Nat.le_refl _)), ?_⟩
    have hx115 := ho113.wide (a' := bs) (b' := (bs + 1)) (.inl (Nat.le_refl _))
    replace hS := hS.ext ho113
    refine tn rfl (fun _ hG => y_fld fld36_1 rfl) ?_
    refine tn rfl (fun _ hG => y_lb (hba.out hG (by first | omega | (simp only [blk_some, hi1_some] at *; omega))) na3 rfl rfl) ?_
    refine tn rfl (fun _ hG => y_add rfl rfl (by omega)) ?_
    refine tn rfl (fun _ hG => mvP rfl) ?_
    refine tn rfl (fun _ hG => mvI rfl) ?_
    refine tn rfl (fun _ hG => y_sub rfl rfl (by omega)) ?_
    refine tc rfl cl38 (keep_Next_ok _ _ _ _ _ hS (by omega) (by omega) (by omega)) rfl ?_
    rintro v120 w116 ⟨a4, rfl, a4_0, a4_1, hS, ho117⟩
    have hx121 : Out bs (bs + 1) w108 w116 := hx115.step ho117 (by omega)
    have hz122 := ho117.size
    refine ⟨hx121, ?_⟩
    refine tn rfl (fun _ hG => y_add rfl rfl (by omega)) ?_
    refine tn rfl (fun _ hG => mvI rfl) ?_
    refine t_end ?_
    have hz123 := hx121.size
    replace hL := hL.out hx121 (by first | omega | (simp only [blk_some, hi1_some] at *; omega))
    replace hE := hE.step hx121 (by first | omega | (simp only [blk_some, hi1_some] at *; omega))
    replace hb2 := hb2.out hx121 (by first | omega | (simp only [blk_some, hi1_some] at *; omega))
    replace hev := hev.out hx121 (by first | omega | (simp only [blk_some, hi1_some] at *; omega))
    replace hb4 := hb4.out hx121 (by first | omega | (simp only [blk_some, hi1_some] at *; omega))
    replace hac := hac.out hx121 (by first | omega | (simp only [blk_some, hi1_some] at *; omega))
    replace hlp1 := hlp1.step hx121 (by first | omega | (simp only [blk_some, hi1_some] at *; omega))
    replace hba := hba.out hx121 (by first | omega | (simp only [blk_some, hi1_some] at *; omega))
    refine st (y_rem rfl rfl (by omega)) ?_
    have htt := other_rem a2 a4 evs.length (by omega) (by omega) (by omega) (by omega)
    generalize (a2 + 1 + a4).tmod (evs.length : Int) = tt at htt ⊢
    refine st (y_fld fld36_2 rfl) ?_
    refine sd0 (d_st hba sz3 rfl rfl rfl (Nat.le_of_ble_eq_true rfl) ?_)
    intro w124 hs126 ho125 hba'
    clear hba; have hba := hba'; clear hba'
    have hz127 := ho125.size
    replace hL := hL.out ho125 (by first | omega | (simp only [blk_some, hi1_some] at *; omega))
    replace hE := hE.step ho125 (by first | omega | (simp only [blk_some, hi1_some] at *; omega))
    replace hb2 := hb2.out ho125 (by first | omega | (simp only [blk_some, hi1_some] at *; omega))
    replace hev := hev.out ho125 (by first | omega | (simp only [blk_some, hi1_some] at *; omega))
    replace hS := hS.out ho125 (by first | omega | (simp only [blk_some, hi1_some] at *; omega))
    replace hb4 := hb4.out ho125 (by first | omega | (simp only [blk_some, hi1_some] at *; omega))
    replace hac := hac.out ho125 (by first | omega | (simp only [blk_some, hi1_some] at *; omega))
    replace hlp1 := hlp1.step ho125 (by first | omega | (simp only [blk_some, hi1_some] at *; omega))
    refine rg_end ?_
    refine n_then ?_
    refine wp_seq ?_
    refine rgD 7 (fun w_ => Out bs (bs + 1) w124 w_) (fun i => Nat.beq i 4) mixed (by kernel_rfl) ?_
    intro w128 ho129 hs130
    refine ⟨ho129.wide (.inl (Nat.le_refl _)), ?_⟩
    have hx131 := ho129.wide (a' := bs) (b' := (bs + 1)) (.inl (Nat.le_refl _))
    replace hS := hS.ext ho129
    refine tn rfl (fun _ hG => mvP rfl) ?_
    refine tn rfl (fun _ hG => y_fld fld26_0 rfl) ?_
    refine tn rfl (fun _ hG => y_lb (hb4.out hG (by first | omega | (simp only [blk_some, hi1_some] at *; omega))) na3 rfl rfl) ?_
    refine tn rfl (fun _ hG => y_mul rfl rfl (by omega)) ?_
    refine tc rfl cl38 (keep_Next_ok _ _ _ _ _ hS (by omega) (by omega) (by omega)) rfl ?_
    rintro v136 w132 ⟨a5, rfl, a5_0, a5_1, hS, ho133⟩
    have hx137 : Out bs (bs + 1) w124 w132 := hx131.step ho133 (by omega)
    have hz138 := ho133.size
    refine ⟨hx137, ?_⟩
    refine tn rfl (fun _ hG => y_fld fld26_0 rfl) ?_
    refine tn rfl (fun _ hG => y_lb (hb4.out hG (by first | omega | (simp only [blk_some, hi1_some] at *; omega))) na3 rfl rfl) ?_
    refine t_end ?_
    have hz139 := hx137.size
    replace hL := hL.out hx137 (by first | omega | (simp only [blk_some, hi1_some] at *; omega))
    replace hE := hE.step hx137 (by first | omega | (simp only [blk_some, hi1_some] at *; omega))
    replace hb2 := hb2.out hx137 (by first | omega | (simp only [blk_some, hi1_some] at *; omega))
    replace hev := hev.out hx137 (by first | omega | (simp only [blk_some, hi1_some] at *; omega))
    replace hb4 := hb4.out hx137 (by first | omega | (simp only [blk_some, hi1_some] at *; omega))
    replace hac := hac.out hx137 (by first | omega | (simp only [blk_some, hi1_some] at *; omega))
    replace hlp1 := hlp1.step hx137 (by first | omega | (simp only [blk_some, hi1_some] at *; omega))
    replace hba := hba.out hx137 (by first | omega | (simp only [blk_some, hi1_some] at *; omega))
    refine st (y_sub rfl rfl (by omega)) ?_
    refine st (y_fld fld36_3 rfl) ?_
    refine sd0 (d_st hba sz3 rfl rfl rfl (Nat.le_of_ble_eq_true rfl) ?_)
    intro w140 hs142 ho141 hba'
    clear hba; have hba := hba'; clear hba'
    have hz143 := ho141.size
    replace hL := hL.out ho141 (by first | omega | (simp only [blk_some, hi1_some] at *; omega))
    replace hE := hE.step ho141 (by first | omega | (simp only [blk_some, hi1_some] at *; omega))
    replace hb2 := hb2.out ho141 (by first | omega | (simp only [blk_some, hi1_some] at *; omega))
    replace hev := hev.out ho141 (by first | omega | (simp only [blk_some, hi1_some] at *; omega))
    replace hS := hS.out ho141 (by first | omega | (simp only [blk_some, hi1_some] at *; omega))
    replace hb4 := hb4.out ho141 (by first | omega | (simp only [blk_some, hi1_some] at *; omega))
    replace hac := hac.out ho141 (by first | omega | (simp only [blk_some, hi1_some] at *; omega))
    replace hlp1 := hlp1.step ho141 (by first | omega | (simp only [blk_some, hi1_some] at *; omega))
    refine rg_end ?_
    refine n_then ?_
    refine wp_seq ?_
    refine rgD 6 (fun w_ => Out bs (bs + 1) w140 w_) (fun i => Nat.beq i 5) mixed (by kernel_rfl) ?_
    intro w144 ho145 hs146
    refine ⟨ho145.wide (.inl (Nat.le_refl _)), ?_⟩
    have hx147 := ho145.wide (a' := bs) (b' := (bs + 1)) (.inl (Nat.le_refl _))
    replace hS := hS.ext ho145
    refine tn rfl (fun _ hG => y_fld fld36_3 rfl) ?_
    refine tn rfl (fun _ hG => y_lb (hba.out hG (by first | omega | (simp only [blk_some, hi1_some] at *; omega))) na3 rfl rfl) ?_
    refine tn rfl (fun _ hG => mvP rfl) ?_
    refine tn rfl (fun _ hG => y_fld fld26_0 rfl) ?_
    refine tn rfl (fun _ hG => y_lb (hb4.out hG (by first | omega | (simp only [blk_some, hi1_some] at *; omega))) na3 rfl rfl) ?_
    refine tc rfl cl38 (keep_Next_ok _ _ _ _ _ hS (by omega) (by omega) (by omega)) rfl ?_
    rintro v152 w148 ⟨a6, rfl, a6_0, a6_1, hS, ho149⟩
    have hx153 : Out bs (bs + 1) w140 w148 := hx147.step ho149 (by omega)
    have hz154 := ho149.size
    refine ⟨hx153, ?_⟩
    refine t_end ?_
    have hz155 := hx153.size
    replace hL := hL.out hx153 (by first | omega | (simp only [blk_some, hi1_some] at *; omega))
    replace hE := hE.step hx153 (by first | omega | (simp only [blk_some, hi1_some] at *; omega))
    replace hb2 := hb2.out hx153 (by first | omega | (simp only [blk_some, hi1_some] at *; omega))
    replace hev := hev.out hx153 (by first | omega | (simp only [blk_some, hi1_some] at *; omega))
    replace hb4 := hb4.out hx153 (by first | omega | (simp only [blk_some, hi1_some] at *; omega))
    replace hac := hac.out hx153 (by first | omega | (simp only [blk_some, hi1_some] at *; omega))
    replace hlp1 := hlp1.step hx153 (by first | omega | (simp only [blk_some, hi1_some] at *; omega))
    replace hba := hba.out hx153 (by first | omega | (simp only [blk_some, hi1_some] at *; omega))
    refine st (y_add rfl rfl (by omega)) ?_
    refine st (y_fld fld36_4 rfl) ?_
    refine sd0 (d_st hba sz3 rfl rfl rfl (Nat.le_of_ble_eq_true rfl) ?_)
    intro w156 hs158 ho157 hba'
    clear hba; have hba := hba'; clear hba'
    have hz159 := ho157.size
    replace hL := hL.out ho157 (by first | omega | (simp only [blk_some, hi1_some] at *; omega))
    replace hE := hE.step ho157 (by first | omega | (simp only [blk_some, hi1_some] at *; omega))
    replace hb2 := hb2.out ho157 (by first | omega | (simp only [blk_some, hi1_some] at *; omega))
    replace hev := hev.out ho157 (by first | omega | (simp only [blk_some, hi1_some] at *; omega))
    replace hS := hS.out ho157 (by first | omega | (simp only [blk_some, hi1_some] at *; omega))
    replace hb4 := hb4.out ho157 (by first | omega | (simp only [blk_some, hi1_some] at *; omega))
    replace hac := hac.out ho157 (by first | omega | (simp only [blk_some, hi1_some] at *; omega))
    replace hlp1 := hlp1.step ho157 (by first | omega | (simp only [blk_some, hi1_some] at *; omega))
    refine rg_end ?_
    refine n_then ?_
    refine rg ?_
    refine st (y_fld fld26_2 rfl) ?_
    refine st (y_lb hb4 na24 rfl rfl) ?_
    refine st (y_lbN hba agg36 rfl) ?_
    refine sd (d_bs (bsl24_1 _ _ _ _ _ _ _) rfl ?_)
    intro bl163 w160 hbbl163 hs162 ho161 hbl163
    have hz164 := ho161.size
    replace hL := hL.ext ho161
    replace hE := hE.step ho161 (.inl (Nat.le_refl _))
    replace hb2 := hb2.ext ho161
    replace hev := hev.ext ho161
    replace hS := hS.ext ho161
    replace hb4 := hb4.ext ho161
    replace hac := hac.ext ho161
    replace hlp1 := hlp1.step ho161 (.inl (Nat.le_refl _))
    replace hba := hba.ext ho161
    have hrhac := hac.rng
    refine sd (d_app (xs := [(⟨_, _, _, _, _, _⟩ : Ac)]) hac sl24 infoz36 (by decide) rfl rfl rfl rfl (hbl163) (fun _ => rfl) (by simp; unfold maxLen; omega) (by simp; omega) (by omega) (by omega) ?_)
    intro aa1 ca1 w165 ho166 hac'
    have hs167 := ho166.size
    clear hac; have hac := hac'; clear hac'
    have hz170 := ho166.size
    replace hL := hL.out ho166 (by first | omega | (simp only [blk_some, hi1_some] at *; omega))
    replace hE := hE.step ho166 (by first | omega | (simp only [blk_some, hi1_some] at *; omega))
    replace hb2 := hb2.out ho166 (by first | omega | (simp only [blk_some, hi1_some] at *; omega))
    replace hev := hev.out ho166 (by first | omega | (simp only [blk_some, hi1_some] at *; omega))
    replace hS := hS.out ho166 (by first | omega | (simp only [blk_some, hi1_some] at *; omega))
    replace hb4 := hb4.out ho166 (by first | omega | (simp only [blk_some, hi1_some] at *; omega))
    replace hlp1 := hlp1.step ho166 (by first | omega | (simp only [blk_some, hi1_some] at *; omega))
    replace hba := hba.out ho166 (by first | omega | (simp only [blk_some, hi1_some] at *; omega))
    refine st (y_fld fld26_2 rfl) ?_
    refine sd0 (d_st hb4 sz24 rfl rfl rfl (Nat.le_of_ble_eq_true rfl) ?_)
    intro w171 hs173 ho172 hb4'
    clear hb4; have hb4 := hb4'; clear hb4'
    have hz174 := ho172.size
    replace hL := hL.out ho172 (by first | omega | (simp only [blk_some, hi1_some] at *; omega))
    replace hE := hE.step ho172 (by first | omega | (simp only [blk_some, hi1_some] at *; omega))
    replace hb2 := hb2.out ho172 (by first | omega | (simp only [blk_some, hi1_some] at *; omega))
    replace hev := hev.out ho172 (by first | omega | (simp only [blk_some, hi1_some] at *; omega))
    replace hS := hS.out ho172 (by first | omega | (simp only [blk_some, hi1_some] at *; omega))
    replace hlp1 := hlp1.step ho172 (by first | omega | (simp only [blk_some, hi1_some] at *; omega))
    replace hba := hba.out ho172 (by first | omega | (simp only [blk_some, hi1_some] at *; omega))
    have hrnhac := hac.rng
    replace hac := hac.out ho172 (by first | omega | (simp only [blk_some, hi1_some] at *; omega))
    refine rg_end ?_
    refine n_blk ?_
    refine n_then ?_
    refine rg ?_
    refine st (mvI rfl) ?_
    refine st (y_sub rfl rfl (by omega)) ?_
    refine st (asI rfl) ?_
    refine rg_end ?_
    exact n_then ⟨(_, _, _, k - 1), _, rfl, same_lk rfl (same_h0), ⟨rfl, trivial⟩, ⟨hlp1, by omega, by simp; omega, all_push hoks ⟨acok_mk (by omega) (by omega) (by omega) (by omega) (by omega) (by omega) (by omega) (by omega) (by omega) (by omega) (by omega), by dsimp only; omega, by dsimp only; omega⟩, hS, hb4, hac.wide (by omega)⟩, by first | omega | (dsimp only; omega)⟩
   ·
    try simp only [nm] at hc1
    refine wp_exit ?_
    refine e_then (e_then (e_blk (?_)))
    refine n_then ?_
    refine wp_seq ?_
    refine rg ?_
    refine st (y_lbN hb4 agg26 rfl) ?_
    refine sd0 (d_stN hb2 rfl rfl sz26 rfl rfl ?_)
    intro w175 hs177 ho176 hb2'
    clear hb2; have hb2 := hb2'; clear hb2'
    have hz178 := ho176.size
    replace hL := hL.out ho176 (by first | omega | (simp only [blk_some, hi1_some] at *; omega))
    replace hE := hE.step ho176 (by first | omega | (simp only [blk_some, hi1_some] at *; omega))
    replace hev := hev.out ho176 (by first | omega | (simp only [blk_some, hi1_some] at *; omega))
    replace hS := hS.out ho176 (by first | omega | (simp only [blk_some, hi1_some] at *; omega))
    replace hb4 := hb4.out ho176 (by first | omega | (simp only [blk_some, hi1_some] at *; omega))
    have hrnhac := hac.rng
    replace hac := hac.out ho176 (by first | omega | (simp only [blk_some, hi1_some] at *; omega))
    refine rg_end ?_
    refine n_then ?_
    refine wp_ret ?_
    refine retC Try.results18 hb2 agg26 rfl ?_
    exact ⟨⟨2 + pr, evs, acts⟩, ⟨ae, ce, aa, ca⟩, rfl, ⟨⟨by dsimp only; omega, by dsimp only; omega, by dsimp only; omega, by dsimp only; omega, fun a ha => (hoks a ha).1.re rfl rfl⟩, by dsimp only; omega, by dsimp only; omega, by dsimp only; omega, by dsimp only; omega, by dsimp only; omega, fun a ha => (hoks a ha).2⟩, (hev.lower (by omega)).wide (by omega), (hac.lower (by omega)).wide (by omega), (by have := hev.rng; have := hac.rng; dsimp only; omega), hE⟩
  ·
   have hg85n := hg85; try simp only [nm] at hg85n
   refine sts rfl rfl hg85 ?_
   refine sts rfl rfl hg85 ?_
   refine st (y_pickF rfl hg85 (v := .bool _) rfl) ?_
   refine rg_end ?_
   refine n_then ?_
   refine cnd rfl (fun hc1 => absurd hc1 (by decide)) (fun hc1 => ?_)
   refine wp_exit ?_
   refine e_then (e_then (e_blk (?_)))
   refine n_then ?_
   refine wp_seq ?_
   refine rg ?_
   refine st (y_lbN hb4 agg26 rfl) ?_
   refine sd0 (d_stN hb2 rfl rfl sz26 rfl rfl ?_)
   intro w179 hs181 ho180 hb2'
   clear hb2; have hb2 := hb2'; clear hb2'
   have hz182 := ho180.size
   replace hL := hL.out ho180 (by first | omega | (simp only [blk_some, hi1_some] at *; omega))
   replace hE := hE.step ho180 (by first | omega | (simp only [blk_some, hi1_some] at *; omega))
   replace hev := hev.out ho180 (by first | omega | (simp only [blk_some, hi1_some] at *; omega))
   replace hS := hS.out ho180 (by first | omega | (simp only [blk_some, hi1_some] at *; omega))
   replace hb4 := hb4.out ho180 (by first | omega | (simp only [blk_some, hi1_some] at *; omega))
   have hrnhac := hac.rng
   replace hac := hac.out ho180 (by first | omega | (simp only [blk_some, hi1_some] at *; omega))
   refine rg_end ?_
   refine n_then ?_
   refine wp_ret ?_
   refine retC Try.results18 hb2 agg26 rfl ?_
   exact ⟨⟨2 + pr, evs, acts⟩, ⟨ae, ce, aa, ca⟩, rfl, ⟨⟨by dsimp only; omega, by dsimp only; omega, by dsimp only; omega, by dsimp only; omega, fun a ha => (hoks a ha).1.re rfl rfl⟩, by dsimp only; omega, by dsimp only; omega, by dsimp only; omega, by dsimp only; omega, by dsimp only; omega, fun a ha => (hoks a ha).2⟩, (hev.lower (by omega)).wide (by omega), (hac.lower (by omega)).wide (by omega), (by have := hev.rng; have := hac.rng; dsimp only; omega), hE⟩
end Go.Proofs.Ytclligkngjhihaa
