/-
  Walks of the functions, printed by a program out of the code and the loops' relations.
-/
import Derived.Test.YtclligkngjhihaaWkD
import Derived.Test.YtclligkngjhihaaProg
import Derived.KernelRfl
import Derived.Test.YtclligkngjhihaaK8
namespace Go.Proofs.Ytclligkngjhihaa
open Go.Wk Go.RowKit
set_option linter.unusedVariables false
set_option linter.unusedSimpArgs false
theorem tdiv_rng {a b : Int} (hb : 1 ≤ b) (ha : -1000000000 ≤ a ∧ a ≤ 1000000000) : -1000000000 ≤ a.tdiv b ∧ a.tdiv b ≤ 1000000000 ∧ b * a.tdiv b + a.tmod b = a ∧ -b < a.tmod b ∧ a.tmod b < b ∧ (0 ≤ a → 0 ≤ a.tmod b) ∧ (a ≤ 0 → a.tmod b ≤ 0) := by
  have h1 := Int.mul_tdiv_add_tmod a b
  have h2 := Int.tmod_lt_of_pos a (show 0 < b by omega)
  have h3 := Int.lt_tmod_of_pos a (show 0 < b by omega)
  have h4 : 0 ≤ a → 0 ≤ a.tmod b := fun h => Int.tmod_nonneg b h
  have h5 : a ≤ 0 → a.tmod b ≤ 0 := fun h => by
    have := Int.tmod_nonneg b (show 0 ≤ -a by omega)
    rw [Int.neg_tmod] at this; omega
  have h6 : 0 ≤ a → 0 ≤ a.tdiv b ∧ a.tdiv b ≤ a := fun h => ⟨Int.tdiv_nonneg h (by omega), Int.tdiv_le_self b h⟩
  have h7 : a ≤ 0 → a ≤ a.tdiv b ∧ a.tdiv b ≤ 0 := fun h => by
    have k1 := Int.tdiv_nonneg (show 0 ≤ -a by omega) (show 0 ≤ b by omega)
    have k2 := Int.tdiv_le_self b (show 0 ≤ -a by omega)
    rw [Int.neg_tdiv] at k1 k2; omega
  omega
theorem ceil_le {a b q z : Int} (hb : 0 < b) (h : q * b - b < a) (hz : a ≤ z * b) : q ≤ z := by
  have h1 : (q - 1) * b < z * b := by rw [Int.sub_mul, Int.one_mul]; omega
  have := Int.lt_of_mul_lt_mul_right h1 (by omega)
  omega
theorem floor_le {a b q z : Int} (hb : 0 < b) (h : a < q * b + b) (hz : z * b ≤ a) : z ≤ q := by
  have h1 : z * b < (q + 1) * b := by rw [Int.add_mul, Int.one_mul]; omega
  have := Int.lt_of_mul_lt_mul_right h1 (by omega)
  omega

set_option maxRecDepth 100000 in
theorem ref1_Ceil_ok (a b : Int) (w : World) (ha : -1000000000 ≤ a ∧ a ≤ 1000000000) (hb : 1 ≤ b ∧ b ≤ 1000000) : Cal Try.prog 54 [.int .i64 a, .int .i64 b] w (fun v w' => ∃ q : Int, v = .int .i64 q ∧ a ≤ q * b ∧ q * b - b < a ∧ -1000000001 ≤ q ∧ q ≤ 1000000001 ∧ Ext w w') := by
 obtain ⟨t1, t2, t3, t4, t5, t6, t7⟩ := tdiv_rng (b := b) hb.1 ha
 rw [Int.mul_comm] at t3
 have hE : Out 0 0 w w := Out.refl _ _ w
 refine enter Try.func54 rfl Try.ntmps54 rfl ?_
 refine wp_seq ?_
 refine rg ?_
 refine st (asI rfl) ?_
 refine rg_end ?_
 refine n_then ?_
 refine wp_seq ?_
 refine rg ?_
 refine st (mvI rfl) ?_
 refine st (mvI rfl) ?_
 refine st (y_quo rfl rfl (by omega) (by omega)) ?_
 refine st (asI rfl) ?_
 refine rg_end ?_
 refine n_then ?_
 refine wp_seq ?_
 refine wp_seq ?_
 refine rg ?_
 refine st (mvI rfl) ?_
 refine st (mvI rfl) ?_
 refine st (y_rem rfl rfl (by omega)) ?_
 refine st (y_gtr rfl rfl) ?_
 refine rg_end ?_
 refine n_then ?_
 refine cnd rfl (fun hc0 => ?_) (fun hc0 => ?_)
 ·
  try simp only [nm] at hc0
  have hm : (a.tdiv b + 1) * b = a.tdiv b * b + b := by rw [Int.add_mul, Int.one_mul]
  refine rg ?_
  refine st (mvI rfl) ?_
  refine st (y_add rfl rfl (by omega)) ?_
  refine st (asI rfl) ?_
  refine rg_end ?_
  refine n_then ?_
  refine wp_seq ?_
  refine rg ?_
  refine st (mvI rfl) ?_
  refine st (asI rfl) ?_
  refine rg_end ?_
  refine n_then ?_
  refine wp_ret ?_
  refine ret1 (v := (.int .i64 _)) Try.results54 rfl ?_
  first
  | exact ⟨a.tdiv b + 1, rfl, by omega, by omega, by omega, by omega, hE⟩
  | exact ⟨a.tdiv b, rfl, by omega, by omega, by omega, by omega, hE⟩
 ·
  try simp only [nm] at hc0
  refine wp_skip ?_
  refine n_then ?_
  refine wp_seq ?_
  refine rg ?_
  refine st (mvI rfl) ?_
  refine st (asI rfl) ?_
  refine rg_end ?_
  refine n_then ?_
  refine wp_ret ?_
  refine ret1 (v := (.int .i64 _)) Try.results54 rfl ?_
  first
  | exact ⟨a.tdiv b + 1, rfl, by omega, by omega, by omega, by omega, hE⟩
  | exact ⟨a.tdiv b, rfl, by omega, by omega, by omega, by omega, hE⟩

set_option maxRecDepth 100000 in
theorem ref1_Floor_ok (a b : Int) (w : World) (ha : -1000000000 ≤ a ∧ a ≤ 1000000000) (hb : 1 ≤ b ∧ b ≤ 1000000) : Cal Try.prog 55 [.int .i64 a, .int .i64 b] w (fun v w' => ∃ q : Int, v = .int .i64 q ∧ q * b ≤ a ∧ a < q * b + b ∧ -1000000001 ≤ q ∧ q ≤ 1000000001 ∧ Ext w w') := by
 obtain ⟨t1, t2, t3, t4, t5, t6, t7⟩ := tdiv_rng (b := b) hb.1 ha
 rw [Int.mul_comm] at t3
 have hE : Out 0 0 w w := Out.refl _ _ w
 refine enter Try.func55 rfl Try.ntmps55 rfl ?_
 refine wp_seq ?_
 refine rg ?_
 refine st (asI rfl) ?_
 refine rg_end ?_
 refine n_then ?_
 refine wp_seq ?_
 refine rg ?_
 refine st (mvI rfl) ?_
 refine st (mvI rfl) ?_
 refine st (y_quo rfl rfl (by omega) (by omega)) ?_
 refine st (asI rfl) ?_
 refine rg_end ?_
 refine n_then ?_
 refine wp_seq ?_
 refine wp_seq ?_
 refine rg ?_
 refine st (mvI rfl) ?_
 refine st (mvI rfl) ?_
 refine st (y_rem rfl rfl (by omega)) ?_
 refine st (y_lss rfl rfl) ?_
 refine rg_end ?_
 refine n_then ?_
 refine cnd rfl (fun hc0 => ?_) (fun hc0 => ?_)
 ·
  try simp only [nm] at hc0
  have hm : (a.tdiv b - 1) * b = a.tdiv b * b - b := by rw [Int.sub_mul, Int.one_mul]
  refine rg ?_
  refine st (mvI rfl) ?_
  refine st (y_sub rfl rfl (by omega)) ?_
  refine st (asI rfl) ?_
  refine rg_end ?_
  refine n_then ?_
  refine wp_seq ?_
  refine rg ?_
  refine st (mvI rfl) ?_
  refine st (asI rfl) ?_
  refine rg_end ?_
  refine n_then ?_
  refine wp_ret ?_
  refine ret1 (v := (.int .i64 _)) Try.results55 rfl ?_
  first
  | exact ⟨a.tdiv b - 1, rfl, by omega, by omega, by omega, by omega, hE⟩
  | exact ⟨a.tdiv b, rfl, by omega, by omega, by omega, by omega, hE⟩
 ·
  try simp only [nm] at hc0
  refine wp_skip ?_
  refine n_then ?_
  refine wp_seq ?_
  refine rg ?_
  refine st (mvI rfl) ?_
  refine st (asI rfl) ?_
  refine rg_end ?_
  refine n_then ?_
  refine wp_ret ?_
  refine ret1 (v := (.int .i64 _)) Try.results55 rfl ?_
  first
  | exact ⟨a.tdiv b - 1, rfl, by omega, by omega, by omega, by omega, hE⟩
  | exact ⟨a.tdiv b, rfl, by omega, by omega, by omega, by omega, hE⟩

set_option maxHeartbeats 1000000 in
set_option maxRecDepth 100000 in
theorem ref13_sums_ok (N : Net) (A : NetA) (lo hi : Nat) (arcs signs : List Int) (aa : Option Addr) (ca la ha_ : Nat) (ag : Option Addr) (cg lg hg_ : Nat) (w : World) (hN : NetIn lo hi w N A) (hA : Ints la ha_ w aa arcs) (hca : arcs.length ≤ ca) (hSg : Ints lg hg_ w ag signs) (hn : (arcs.length : Int) ≤ 9223372036854775807) (hc : CyOk N arcs signs) : Cal Try.prog 53 [netV N A, .agg #[.slice aa arcs.length ca, .slice ag signs.length cg]] w (fun v w' => v = .tuple #[.int .i64 (bsC N arcs signs arcs.length), .int .i64 (fwC N arcs signs arcs.length), .int .i64 (bwC N arcs signs arcs.length)] ∧ Ext w w') := by
 replace hN := hN.full
 replace hA := Ints.full hA
 replace hSg := Ints.full hSg
 have hlen := hc.len
 have hok := hc.ok
 have hac := hok.ac
 have hcl := cy_len hc
 have hE : Out 0 0 w w := Out.refl _ _ w
 refine enter Try.func53 rfl Try.ntmps53 rfl ?_
 refine wp_seq ?_
 refine rg ?_
 refine sd (d_boxA rfl ?_)
 intro b2 w1 hbb2 hs3 ho2 hb2
 have hz4 := ho2.size
 replace hN := hN.ext ho2
 replace hA := hA.ext ho2
 replace hSg := hSg.ext ho2
 replace hE := hE.step ho2 (.inl (Nat.le_refl _))
 refine sd (d_boxA rfl ?_)
 intro b3 w5 hbb3 hs7 ho6 hb3
 have hz8 := ho6.size
 replace hN := hN.ext ho6
 replace hA := hA.ext ho6
 replace hSg := hSg.ext ho6
 replace hE := hE.step ho6 (.inl (Nat.le_refl _))
 replace hb2 := hb2.ext ho6
 refine st (asI rfl) ?_
 refine st (asI rfl) ?_
 refine st (asI rfl) ?_
 refine rg_end ?_
 refine n_then ?_
 refine wp_seq ?_
 refine wp_seq ?_
 refine rg ?_
 refine st (asI rfl) ?_
 refine rg_end ?_
 refine n_then ?_
 refine wp_block ?_
 refine lp (γ := Nat) [4, 5, 6, 7, 8, 9, 10, 11, 12, 13, 14, 15, 16, 17, 18, 19, 20, 21, 22, 23, 24, 25, 26, 27, 28, 29, 30, 31, 32, 33, 34, 35, 36, 37, 38, 39, 40, 41, 42, 43, 44, 45, 46, 47, 48, 49, 50, 51, 52] (fun k => [(7, .int .i64 (k : Int)), (4, .int .i64 (bsC N arcs signs k)), (5, .int .i64 (fwC N arcs signs k)), (6, .int .i64 (bwC N arcs signs k))]) (fun k w_ => Ext w5 w_ ∧ (k : Int) ≤ arcs.length) (fun k => arcs.length - k) 0 ⟨rfl, rfl, rfl, rfl, trivial⟩ ⟨Out.refl _ _ _, by omega⟩ ?_
 rintro k hav_ w9 ⟨ho10, hk_⟩
 have hlp0 := ho10
 have hz11 := ho10.size
 replace hN := hN.ext ho10
 replace hA := hA.ext ho10
 replace hSg := hSg.ext ho10
 replace hE := hE.step ho10 (.inl (Nat.le_refl _))
 replace hb2 := hb2.ext ho10
 replace hb3 := hb3.ext ho10
 refine wp_seq ?_
 refine wp_seq ?_
 refine rg ?_
 refine st (mvI rfl) ?_
 refine st (y_fld fld58_0 rfl) ?_
 refine st (y_lb hb3 na22 rfl rfl) ?_
 refine st (y_len Try.underlying22 rfl) ?_
 refine st (y_lss rfl rfl) ?_
 refine rg_end ?_
 refine n_then ?_
 refine cnd rfl (fun hc0 => ?_) (fun hc0 => ?_)
 ·
  try simp only [nm] at hc0
  obtain ⟨r0, r1, r2⟩ := hc.a.rng k (by omega)
  obtain ⟨f0, f1, t0, t1, ne, m0, m1, m2, m3, _, _⟩ := hok.acs _ (el_mem r0 r1)
  have hsr := sum_rng hok hc.a k (by omega)
  have hp7 := hok.p7
  refine wp_skip ?_
  refine n_then ?_
  refine wp_seq ?_
  refine wp_block ?_
  refine wp_seq ?_
  refine rgD 10 (fun w_ => Ext w9 w_) (fun i => Nat.beq i 9) mixed (by kernel_rfl) ?_
  intro w12 ho13 hs14
  refine ⟨ho13, ?_⟩
  have hx15 := ho13
  refine tn rfl (fun _ hG => y_fld fld26_2 rfl) ?_
  refine tn rfl (fun _ hG => y_lb (hb2.ext hG) na24 rfl rfl) ?_
  refine tn rfl (fun _ hG => y_fld fld58_0 rfl) ?_
  refine tn rfl (fun _ hG => y_lb (hb3.ext hG) na22 rfl rfl) ?_
  refine tn rfl (fun _ hG => mvI rfl) ?_
  refine tn rfl (fun _ hG => y_ix (hA.ext hG) sl22 rfl (rfl) rfl (by omega) (by omega)) ?_
  refine tn rfl (fun _ hG => y_le (hA.ext hG) na3 rfl (by omega) (by omega) rfl) ?_
  refine tn rfl (fun _ hG => y_ix (hN.a.ext hG) sl24 rfl (rfl) rfl (by omega) (by omega)) ?_
  refine tn rfl (fun _ hG => y_lw (hN.a.ext hG) agg36 rfl (by omega) (by omega)) ?_
  refine td rfl (d_allocA zer36 ?_)
  intro b8 w16 hbb8 hs18 ho17 hb8
  have hx19 := hx15.step ho17 (.inl (Nat.le_refl _))
  have hz20 := ho17.size
  refine ⟨hx19, ?_⟩
  refine t_end ?_
  have hz21 := hx19.size
  replace hN := hN.ext hx19
  replace hA := hA.ext hx19
  replace hSg := hSg.ext hx19
  replace hE := hE.step hx19 (.inl (Nat.le_refl _))
  replace hb2 := hb2.ext hx19
  replace hb3 := hb3.ext hx19
  replace hlp0 := hlp0.step hx19 (.inl (Nat.le_refl _))
  refine sd0 (d_stN hb8 rfl rfl sz36 rfl rfl ?_)
  intro w22 hs24 ho23 hb8'
  clear hb8; have hb8 := hb8'; clear hb8'
  have hz25 := ho23.size
  replace hN := hN.out ho23 (by first | omega | (simp only [blk_some, hi1_some] at *; omega))
  replace hA := hA.out ho23 (by first | omega | (simp only [blk_some, hi1_some] at *; omega))
  replace hSg := hSg.out ho23 (by first | omega | (simp only [blk_some, hi1_some] at *; omega))
  replace hE := hE.step ho23 (by first | omega | (simp only [blk_some, hi1_some] at *; omega))
  replace hb2 := hb2.out ho23 (by first | omega | (simp only [blk_some, hi1_some] at *; omega))
  replace hb3 := hb3.out ho23 (by first | omega | (simp only [blk_some, hi1_some] at *; omega))
  replace hlp0 := hlp0.step ho23 (by first | omega | (simp only [blk_some, hi1_some] at *; omega))
  refine rg_end ?_
  refine n_then ?_
  refine wp_seq ?_
  refine rg ?_
  refine st (y_fld fld58_1 rfl) ?_
  refine st (y_lb hb3 na22 rfl rfl) ?_
  refine st (mvI rfl) ?_
  refine st (y_ix hSg sl22 rfl (rfl) rfl (by omega) (by omega)) ?_
  refine st (y_le hSg na3 rfl (by omega) (by omega) rfl) ?_
  refine st (y_gtr rfl rfl) ?_
  refine rg_end ?_
  refine n_then ?_
  refine cnd rfl (fun hc1 => ?_) (fun hc1 => ?_)
  ·
   try simp only [nm] at hc1
   have e1 : bsC N arcs signs (k + 1) = bsC N arcs signs k + (el N.acts (el arcs (k : Int))).mn := by rw [bsC, if_pos hc1]
   have e2 : fwC N arcs signs (k + 1) = fwC N arcs signs k + ((el N.acts (el arcs (k : Int))).mx - (el N.acts (el arcs (k : Int))).mn) := by rw [fwC, if_pos hc1]
   have e3 : bwC N arcs signs (k + 1) = bwC N arcs signs k := by rw [bwC, if_pos hc1]
   refine wp_seq ?_
   refine rg ?_
   refine st (mvI rfl) ?_
   refine st (y_fld fld36_3 rfl) ?_
   refine st (y_lb hb8 na3 rfl rfl) ?_
   refine st (y_add rfl rfl (by omega)) ?_
   refine st (asI rfl) ?_
   refine rg_end ?_
   refine n_then ?_
   refine rg ?_
   refine st (mvI rfl) ?_
   refine st (y_fld fld36_4 rfl) ?_
   refine st (y_lb hb8 na3 rfl rfl) ?_
   refine st (y_fld fld36_3 rfl) ?_
   refine st (y_lb hb8 na3 rfl rfl) ?_
   refine st (y_sub rfl rfl (by omega)) ?_
   refine st (y_add rfl rfl (by omega)) ?_
   refine st (asI rfl) ?_
   refine rg_end ?_
   refine n_blk ?_
   refine n_then ?_
   refine rg ?_
   refine st (mvI rfl) ?_
   refine st (y_add rfl rfl (by omega)) ?_
   refine st (asI rfl) ?_
   refine rg_end ?_
   exact n_then ⟨k + 1, _, rfl, same_lk rfl (same_h0), ⟨rfl, vi e1.symm, vi e2.symm, vi e3.symm, trivial⟩, ⟨hlp0, by omega⟩, by first | omega | (dsimp only; omega)⟩
  ·
   try simp only [nm] at hc1
   have e1 : bsC N arcs signs (k + 1) = bsC N arcs signs k - (el N.acts (el arcs (k : Int))).mn := by rw [bsC, if_neg hc1]
   have e2 : fwC N arcs signs (k + 1) = fwC N arcs signs k := by rw [fwC, if_neg hc1]
   have e3 : bwC N arcs signs (k + 1) = bwC N arcs signs k + ((el N.acts (el arcs (k : Int))).mx - (el N.acts (el arcs (k : Int))).mn) := by rw [bwC, if_neg hc1]
   refine wp_seq ?_
   refine rg ?_
   refine st (mvI rfl) ?_
   refine st (y_fld fld36_3 rfl) ?_
   refine st (y_lb hb8 na3 rfl rfl) ?_
   refine st (y_sub rfl rfl (by omega)) ?_
   refine st (asI rfl) ?_
   refine rg_end ?_
   refine n_then ?_
   refine rg ?_
   refine st (mvI rfl) ?_
   refine st (y_fld fld36_4 rfl) ?_
   refine st (y_lb hb8 na3 rfl rfl) ?_
   refine st (y_fld fld36_3 rfl) ?_
   refine st (y_lb hb8 na3 rfl rfl) ?_
   refine st (y_sub rfl rfl (by omega)) ?_
   refine st (y_add rfl rfl (by omega)) ?_
   refine st (asI rfl) ?_
   refine rg_end ?_
   refine n_blk ?_
   refine n_then ?_
   refine rg ?_
   refine st (mvI rfl) ?_
   refine st (y_add rfl rfl (by omega)) ?_
   refine st (asI rfl) ?_
   refine rg_end ?_
   exact n_then ⟨k + 1, _, rfl, same_lk rfl (same_h0), ⟨rfl, vi e1.symm, vi e2.symm, vi e3.symm, trivial⟩, ⟨hlp0, by omega⟩, by first | omega | (dsimp only; omega)⟩
 ·
  try simp only [nm] at hc0
  have hke : k = arcs.length := by omega
  subst hke
  refine wp_exit ?_
  refine e_then (e_then (e_blk (?_)))
  refine n_then ?_
  refine wp_seq ?_
  refine rg ?_
  refine st (mvI rfl) ?_
  refine st (mvI rfl) ?_
  refine st (mvI rfl) ?_
  refine st (asI rfl) ?_
  refine st (asI rfl) ?_
  refine st (asI rfl) ?_
  refine rg_end ?_
  refine n_then ?_
  refine wp_ret ?_
  refine ret3 (v := (.int .i64 _)) (v' := (.int .i64 _)) (v'' := (.int .i64 _)) Try.results53 rfl rfl rfl ?_
  exact ⟨rfl, hE⟩
end Go.Proofs.Ytclligkngjhihaa
