/-
  Walks of the functions, printed by a program out of the code and the loops' relations.
-/
import Derived.Test.YtdgkaahghlbocaaWkD
import Derived.Test.YtdgkaahghlbocaaProg
import Derived.KernelRfl
import Derived.Test.YtdgkaahghlbocaaK7
namespace Go.Proofs.Ytdgkaahghlbocaa
open Go.Wk Go.RowKit
set_option linter.unusedVariables false
set_option linter.unusedSimpArgs false
theorem cl16 : Callable Try.prog 16 := ⟨Try.call16⟩
theorem cl32 : Callable Try.prog 32 := ⟨Try.call32⟩
theorem cl35 : Callable Try.prog 35 := ⟨Try.call35⟩
theorem cl43 : Callable Try.prog 43 := ⟨Try.call43⟩
theorem cl50 : Callable Try.prog 50 := ⟨Try.call50⟩
theorem cl66 : Callable Try.prog 66 := ⟨Try.call66⟩
theorem cl67 : Callable Try.prog 67 := ⟨Try.call67⟩

set_option maxRecDepth 100000 in
theorem ref11_Values_ok (N : Net) (A : NetA) (lo hi : Nat) (vals : List Int) (av : Option Addr) (cv lv hv_ : Nat) (w : World) (hN : NetIn lo hi w N A) (hV : Ints lv hv_ w av vals) (hvn : (vals.length : Int) ≤ 9223372036854775807)  : Cal Try.prog 43 [netV N A, .slice av vals.length cv] w (fun v w' => v = .bool (inR N vals) ∧ Ext w w') := by
 replace hN := hN.full
 replace hV := Ints.full hV
 have hE : Out 0 0 w w := Out.refl _ _ w
 refine enter Try.func43 rfl Try.ntmps43 rfl ?_
 refine wp_seq ?_
 refine rg ?_
 refine sd (d_boxA rfl ?_)
 intro b2 w1 hbb2 hs3 ho2 hb2
 have hz4 := ho2.size
 replace hN := hN.ext ho2
 replace hV := hV.ext ho2
 replace hE := hE.step ho2 (.inl (Nat.le_refl _))
 refine st (asB rfl) ?_
 refine rg_end ?_
 refine n_then ?_
 refine wp_seq ?_
 refine wp_seq ?_
 refine rg ?_
 refine st (mvS rfl) ?_
 refine st (y_len Try.underlying22 rfl) ?_
 refine st (y_fld fld26_2 rfl) ?_
 refine st (y_lb hb2 na24 rfl rfl) ?_
 refine st (y_len Try.underlying24 rfl) ?_
 refine st (y_neq rfl rfl) ?_
 refine rg_end ?_
 refine n_then ?_
 refine cnd rfl (fun hc0 => ?_) (fun hc0 => ?_)
 ·
  try simp only [nm] at hc0
  have hf := inR_len hc0
  refine wp_seq ?_
  refine rg ?_
  refine st (asB rfl) ?_
  refine rg_end ?_
  refine n_then ?_
  refine wp_ret ?_
  refine r_then (ret1 (v := (.bool _)) Try.results43 rfl ?_)
  exact ⟨by rw [hf], hE⟩
 ·
  try simp only [nm] at hc0
  refine wp_skip ?_
  refine n_then ?_
  refine wp_seq ?_
  refine wp_seq ?_
  refine rg ?_
  refine st (asI rfl) ?_
  refine rg_end ?_
  refine n_then ?_
  refine wp_block ?_
  refine lp (γ := Nat) [4, 5, 12, 13, 14, 15, 16, 17, 18, 19, 20, 21, 22, 23] (fun k => [(5, .int .i64 (k : Int))]) (fun k w_ => Ext w1 w_ ∧ (k : Int) ≤ vals.length ∧ ∀ q : Nat, q < k → -131072 ≤ el vals (q : Int) ∧ el vals (q : Int) ≤ 131072) (fun k => vals.length - k) 0 ⟨rfl, trivial⟩ ⟨Out.refl _ _ _, by omega, fun q hq => by omega⟩ ?_
  rintro k hav_ w5 ⟨ho6, hk, hall⟩
  have hlp0 := ho6
  have hz7 := ho6.size
  replace hN := hN.ext ho6
  replace hV := hV.ext ho6
  replace hE := hE.step ho6 (.inl (Nat.le_refl _))
  replace hb2 := hb2.ext ho6
  refine wp_seq ?_
  refine wp_seq ?_
  refine rg ?_
  refine st (mvI rfl) ?_
  refine st (mvS rfl) ?_
  refine st (y_len Try.underlying22 rfl) ?_
  refine st (y_lss rfl rfl) ?_
  refine rg_end ?_
  refine n_then ?_
  refine cnd rfl (fun hc1 => ?_) (fun hc1 => ?_)
  ·
   try simp only [nm] at hc1
   refine wp_skip ?_
   refine n_then ?_
   refine wp_seq ?_
   refine wp_block ?_
   refine wp_seq ?_
   refine rg ?_
   refine st (mvS rfl) ?_
   refine st (mvI rfl) ?_
   refine st (y_ix hV sl22 rfl (rfl) rfl (by omega) (by omega)) ?_
   refine st (y_le hV na3 rfl (by omega) (by omega) rfl) ?_
   refine sc cl61 (ref11_in_ok _ _ _ _) rfl ?_
   rintro v12 w8 ⟨rfl, ho9⟩
   have hz13 := ho9.size
   replace hN := hN.ext ho9
   replace hV := hV.ext ho9
   replace hE := hE.step ho9 (.inl (Nat.le_refl _))
   replace hb2 := hb2.ext ho9
   replace hlp0 := hlp0.step ho9 (.inl (Nat.le_refl _))
   refine st (y_not rfl) ?_
   refine rg_end ?_
   refine n_then ?_
   refine cnd rfl (fun hc2 => ?_) (fun hc2 => ?_)
   ·
    try simp only [nm] at hc2
    have hf : inR N vals = false := inR_at (k := k) (by omega) (by omega)
    refine wp_seq ?_
    refine rg ?_
    refine st (asB rfl) ?_
    refine rg_end ?_
    refine n_then ?_
    refine wp_ret ?_
    refine r_blk (r_then (r_then (r_blk (r_then (ret1 (v := (.bool _)) Try.results43 rfl ?_)))))
    exact ⟨by rw [hf], hE⟩
   ·
    try simp only [nm] at hc2
    have hall1 : ∀ q : Nat, q < k + 1 → -131072 ≤ el vals (q : Int) ∧ el vals (q : Int) ≤ 131072 := fun q hq => by
      by_cases e : q = k
      · subst e; omega
      · exact hall q (by omega)
    refine wp_skip ?_
    refine n_blk ?_
    refine n_then ?_
    refine rg ?_
    refine st (mvI rfl) ?_
    refine st (y_add rfl rfl (by omega)) ?_
    refine st (asI rfl) ?_
    refine rg_end ?_
    exact n_then ⟨k + 1, _, rfl, same_lk rfl (same_h0), ⟨rfl, trivial⟩, ⟨hlp0, by omega, hall1⟩, by first | omega | (dsimp only; omega)⟩
  ·
   try simp only [nm] at hc1
   have hf : inR N vals = true := inR_iff.2 ⟨by omega, fun q hq => hall q (by omega)⟩
   refine wp_exit ?_
   refine e_then (e_then (e_blk (?_)))
   refine n_then ?_
   refine wp_seq ?_
   refine rg ?_
   refine st (asB rfl) ?_
   refine rg_end ?_
   refine n_then ?_
   refine wp_ret ?_
   refine ret1 (v := (.bool _)) Try.results43 rfl ?_
   exact ⟨by rw [hf], hE⟩

set_option maxHeartbeats 1000000 in
set_option maxRecDepth 100000 in
theorem ref11_Total_ok (N : Net) (A : NetA) (lo hi : Nat) (arcs signs : List Int) (aa : Option Addr) (ca la ha_ : Nat) (ag : Option Addr) (cg lg hg_ : Nat) (vals : List Int) (av : Option Addr) (cv lv hv_ : Nat) (w : World) (hN : NetIn lo hi w N A) (hA : Ints la ha_ w aa arcs) (hca : arcs.length ≤ ca) (hSg : Ints lg hg_ w ag signs) (hn : (arcs.length : Int) ≤ 9223372036854775807) (hV : Ints lv hv_ w av vals) (hvn : (vals.length : Int) ≤ 9223372036854775807)  : Cal Try.prog 16 [netV N A, .agg #[.slice aa arcs.length ca, .slice ag signs.length cg], .slice av vals.length cv] w (fun v w' => ∃ t e, v = .tuple #[.int .i64 t, .int .i64 e] ∧ (¬ CyOk N arcs signs → t = 0 ∧ e = 1) ∧ (CyOk N arcs signs → inR N vals = false → t = 0 ∧ e = 4) ∧ (CyOk N arcs signs → inR N vals = true → t = totC arcs signs vals arcs.length ∧ e = 0) ∧ Ext w w') := by
 replace hN := hN.full
 replace hA := Ints.full hA
 replace hSg := Ints.full hSg
 replace hV := Ints.full hV
 have hE : Out 0 0 w w := Out.refl _ _ w
 refine enter Try.func16 rfl Try.ntmps16 rfl ?_
 refine wp_seq ?_
 refine rg ?_
 refine sd (d_boxA rfl ?_)
 intro b3 w1 hbb3 hs3 ho2 hb3
 have hz4 := ho2.size
 replace hN := hN.ext ho2
 replace hA := hA.ext ho2
 replace hSg := hSg.ext ho2
 replace hV := hV.ext ho2
 replace hE := hE.step ho2 (.inl (Nat.le_refl _))
 refine sd (d_boxA rfl ?_)
 intro b4 w5 hbb4 hs7 ho6 hb4
 have hz8 := ho6.size
 replace hN := hN.ext ho6
 replace hA := hA.ext ho6
 replace hSg := hSg.ext ho6
 replace hV := hV.ext ho6
 replace hE := hE.step ho6 (.inl (Nat.le_refl _))
 replace hb3 := hb3.ext ho6
 refine st (asI rfl) ?_
 refine st (asI rfl) ?_
 refine rg_end ?_
 refine n_then ?_
 refine wp_seq ?_
 refine wp_seq ?_
 refine rg ?_
 refine st (y_lbN hb3 agg26 rfl) ?_
 refine st (y_lbN hb4 agg37 rfl) ?_
 refine sc cl35 (ref11_CheckCycle_ok N A _ _ arcs signs _ _ _ _ _ _ _ _ _ hN hA hca hSg hn) rfl ?_
 rintro v13 w9 ⟨b, rfl, hb, ho10⟩
 have hz14 := ho10.size
 replace hN := hN.ext ho10
 replace hA := hA.ext ho10
 replace hSg := hSg.ext ho10
 replace hV := hV.ext ho10
 replace hE := hE.step ho10 (.inl (Nat.le_refl _))
 replace hb3 := hb3.ext ho10
 replace hb4 := hb4.ext ho10
 refine st (y_not rfl) ?_
 refine rg_end ?_
 refine n_then ?_
 refine cnd rfl (fun hc0 => ?_) (fun hc0 => ?_)
 ·
  try simp only [nm] at hc0
  have hno : ¬ CyOk N arcs signs := fun h => by rw [hb.2 h] at hc0; cases hc0
  refine wp_seq ?_
  refine rg ?_
  refine st (asI rfl) ?_
  refine st (asI rfl) ?_
  refine rg_end ?_
  refine n_then ?_
  refine wp_ret ?_
  refine r_then (ret2 (v := (.int .i64 _)) (v' := (.int .i64 _)) Try.results16 rfl rfl ?_)
  exact ⟨0, 1, rfl, fun _ => ⟨rfl, rfl⟩, fun h => absurd h hno, fun h => absurd h hno, hE⟩
 ·
  try simp only [nm] at hc0
  have hcy := hb.1 hc0
  have hac := hcy.ok.ac
  refine wp_skip ?_
  refine n_then ?_
  refine wp_seq ?_
  refine wp_seq ?_
  refine rg ?_
  refine st (y_lbN hb3 agg26 rfl) ?_
  refine st (mvS rfl) ?_
  refine sc cl43 (ref11_Values_ok N A _ _ vals _ _ _ _ _ hN hV hvn) rfl ?_
  rintro v19 w15 ⟨rfl, ho16⟩
  have hz20 := ho16.size
  replace hN := hN.ext ho16
  replace hA := hA.ext ho16
  replace hSg := hSg.ext ho16
  replace hV := hV.ext ho16
  replace hE := hE.step ho16 (.inl (Nat.le_refl _))
  replace hb3 := hb3.ext ho16
  replace hb4 := hb4.ext ho16
  refine st (y_not rfl) ?_
  refine rg_end ?_
  refine n_then ?_
  refine cnd rfl (fun hc1 => ?_) (fun hc1 => ?_)
  ·
   try simp only [nm] at hc1
   refine wp_seq ?_
   refine rg ?_
   refine st (asI rfl) ?_
   refine st (asI rfl) ?_
   refine rg_end ?_
   refine n_then ?_
   refine wp_ret ?_
   refine r_then (ret2 (v := (.int .i64 _)) (v' := (.int .i64 _)) Try.results16 rfl rfl ?_)
   exact ⟨0, 4, rfl, fun h => absurd hcy h, fun _ _ => ⟨rfl, rfl⟩, fun _ h => (by rw [hc1] at h; cases h), hE⟩
  ·
   try simp only [nm] at hc1
   obtain ⟨r1, r2⟩ := inR_iff.1 hc1
   have hlen := hcy.len
   refine wp_skip ?_
   refine n_then ?_
   refine wp_seq ?_
   refine rg ?_
   have hal0 : arcs.length ≤ 512 := by have := cy_len hcy; omega
   refine st (asI rfl) ?_
   refine rg_end ?_
   refine n_then ?_
   refine wp_seq ?_
   refine wp_seq ?_
   refine rg ?_
   refine st (asI rfl) ?_
   refine rg_end ?_
   refine n_then ?_
   refine wp_block ?_
   refine lp (γ := Nat) [8, 9, 18, 19, 20, 21, 22, 23, 24, 25, 26, 27, 28, 29, 30, 31, 32, 33, 34, 35, 36, 37, 38, 39, 40] (fun k => [(9, .int .i64 (k : Int)), (8, .int .i64 (totC arcs signs vals k))]) (fun k w_ => Ext w15 w_ ∧ (k : Int) ≤ arcs.length) (fun k => arcs.length - k) 0 ⟨rfl, rfl, trivial⟩ ⟨Out.refl _ _ _, by omega⟩ ?_
   rintro k hav_ w21 ⟨ho22, hk⟩
   have hlp0 := ho22
   have hz23 := ho22.size
   replace hN := hN.ext ho22
   replace hA := hA.ext ho22
   replace hSg := hSg.ext ho22
   replace hV := hV.ext ho22
   replace hE := hE.step ho22 (.inl (Nat.le_refl _))
   replace hb3 := hb3.ext ho22
   replace hb4 := hb4.ext ho22
   refine wp_seq ?_
   refine wp_seq ?_
   refine rg ?_
   refine st (mvI rfl) ?_
   refine st (y_fld fld37_0 rfl) ?_
   refine st (y_lb hb4 na22 rfl rfl) ?_
   refine st (y_len Try.underlying22 rfl) ?_
   refine st (y_lss rfl rfl) ?_
   refine rg_end ?_
   refine n_then ?_
   refine cnd rfl (fun hc2 => ?_) (fun hc2 => ?_)
   ·
    try simp only [nm] at hc2
    obtain ⟨i0, i1, i2⟩ := hcy.a.rng k (by omega)
    have hv1 := r2 (el arcs (k : Int)).toNat (by omega)
    rw [Int.toNat_of_nonneg i0] at hv1
    have hb1 := tot_rng hcy.a hc1 (k + 1) (by omega)
    rw [totC] at hb1
    have hal : arcs.length ≤ 512 := hal0
    have hpr : -131072 ≤ el signs (k : Int) * el vals (el arcs (k : Int)) ∧ el signs (k : Int) * el vals (el arcs (k : Int)) ≤ 131072 := by rcases i2 with e | e <;> rw [e] <;> omega
    refine wp_skip ?_
    refine n_then ?_
    refine wp_seq ?_
    refine wp_block ?_
    refine rgD 15 (fun w_ => Ext w21 w_) (fun i => false) mixed (by kernel_rfl) ?_
    intro w24 ho25 hs26
    refine ⟨ho25, ?_⟩
    have hx27 := ho25
    refine tn rfl (fun _ hG => mvI rfl) ?_
    refine tn rfl (fun _ hG => y_fld fld37_1 rfl) ?_
    refine tn rfl (fun _ hG => y_lb (hb4.ext hG) na22 rfl rfl) ?_
    refine tn rfl (fun _ hG => mvI rfl) ?_
    refine tn rfl (fun _ hG => y_ix (hSg.ext hG) sl22 rfl (rfl) rfl (by omega) (by omega)) ?_
    refine tn rfl (fun _ hG => y_le (hSg.ext hG) na3 rfl (by omega) (by omega) rfl) ?_
    refine tn rfl (fun _ hG => mvS rfl) ?_
    refine tn rfl (fun _ hG => y_fld fld37_0 rfl) ?_
    refine tn rfl (fun _ hG => y_lb (hb4.ext hG) na22 rfl rfl) ?_
    refine tn rfl (fun _ hG => mvI rfl) ?_
    refine tn rfl (fun _ hG => y_ix (hA.ext hG) sl22 rfl (rfl) rfl (by omega) (by omega)) ?_
    refine tn rfl (fun _ hG => y_le (hA.ext hG) na3 rfl (by omega) (by omega) rfl) ?_
    refine tn rfl (fun _ hG => y_ix (hV.ext hG) sl22 rfl (rfl) rfl (by omega) (by omega)) ?_
    refine tn rfl (fun _ hG => y_le (hV.ext hG) na3 rfl (by omega) (by omega) rfl) ?_
    refine tn rfl (fun _ hG => y_mul rfl rfl (by omega)) ?_
    refine t_end ?_
    have hz28 := hx27.size
    replace hN := hN.ext hx27
    replace hA := hA.ext hx27
    replace hSg := hSg.ext hx27
    replace hV := hV.ext hx27
    replace hE := hE.step hx27 (.inl (Nat.le_refl _))
    replace hb3 := hb3.ext hx27
    replace hb4 := hb4.ext hx27
    replace hlp0 := hlp0.step hx27 (.inl (Nat.le_refl _))
    refine st (y_add rfl rfl (by omega)) ?_
    refine st (asI rfl) ?_
    refine rg_end ?_
    refine n_blk ?_
    refine n_then ?_
    refine rg ?_
    refine st (mvI rfl) ?_
    refine st (y_add rfl rfl (by omega)) ?_
    refine st (asI rfl) ?_
    refine rg_end ?_
    exact n_then ⟨k + 1, _, rfl, same_lk rfl (same_h0), ⟨rfl, rfl, trivial⟩, ⟨hlp0, by omega⟩, by first | omega | (dsimp only; omega)⟩
   ·
    try simp only [nm] at hc2
    have hkl : k = arcs.length := by omega
    subst hkl
    refine wp_exit ?_
    refine e_then (e_then (e_blk (?_)))
    refine n_then ?_
    refine wp_seq ?_
    refine rg ?_
    refine st (mvI rfl) ?_
    refine st (asI rfl) ?_
    refine st (asI rfl) ?_
    refine rg_end ?_
    refine n_then ?_
    refine wp_ret ?_
    refine ret2 (v := (.int .i64 _)) (v' := (.int .i64 _)) Try.results16 rfl rfl ?_
    exact ⟨_, 0, rfl, fun h => absurd hcy h, fun _ h => (by rw [hc1] at h; cases h), fun _ _ => ⟨rfl, rfl⟩, hE⟩

set_option maxHeartbeats 1000000 in
set_option maxRecDepth 100000 in
theorem ref11_Tensions_ok (N : Net) (A : NetA) (lo hi : Nat) (t : List Int) (at_ : Option Addr) (ct : Nat) (lt ht : Nat) (w : World) (hN : NetIn lo hi w N A) (hT : Ints lt ht w at_ t)  : Cal Try.prog 50 [netV N A, .slice at_ t.length ct] w (fun v w' => ∃ ad c, v = .tuple #[.slice ad (tenL N t).length c, .int .i64 (tenE N t)] ∧ Ints w.heap.size w'.heap.size w' ad (tenL N t) ∧ Ext w w') := by
 replace hN := hN.full
 replace hT := Ints.full hT
 have hE : Out 0 0 w w := Out.refl _ _ w
 refine enter Try.func50 rfl Try.ntmps50 rfl ?_
 refine wp_seq ?_
 refine rg ?_
 refine sd (d_boxA rfl ?_)
 intro b2 w1 hbb2 hs3 ho2 hb2
 have hz4 := ho2.size
 replace hN := hN.ext ho2
 replace hT := hT.ext ho2
 replace hE := hE.step ho2 (.inl (Nat.le_refl _))
 refine st (asS rfl) ?_
 refine st (asI rfl) ?_
 refine rg_end ?_
 refine n_then ?_
 refine wp_seq ?_
 refine wp_seq ?_
 refine rg ?_
 refine st (y_lbN hb2 agg26 rfl) ?_
 refine st (mvS rfl) ?_
 refine sc cl66 (ref11_Good_ok N A _ _ t _ _ _ _ _ hN hT) rfl ?_
 rintro v9 w5 ⟨rfl, ho6⟩
 have hz10 := ho6.size
 replace hN := hN.ext ho6
 replace hT := hT.ext ho6
 replace hE := hE.step ho6 (.inl (Nat.le_refl _))
 replace hb2 := hb2.ext ho6
 refine st (y_not rfl) ?_
 refine rg_end ?_
 refine n_then ?_
 refine cnd rfl (fun hc0 => ?_) (fun hc0 => ?_)
 ·
  try simp only [nm] at hc0
  have e1 : tenL N t = [] := by unfold tenL; rw [if_neg (by rw [hc0]; decide)]
  have e2 : tenE N t = 1 := by unfold tenE; rw [if_neg (by rw [hc0]; decide)]
  refine wp_seq ?_
  refine rg ?_
  refine st (asS rfl) ?_
  refine st (asI rfl) ?_
  refine rg_end ?_
  refine n_then ?_
  refine wp_ret ?_
  refine r_then (ret2 (v := (.slice _ _ _)) (v' := (.int .i64 _)) Try.results50 rfl rfl ?_)
  rw [e1, e2]
  exact ⟨none, 0, rfl, nilS0, hE⟩
 ·
  try simp only [nm] at hc0
  have e1 : tenL N t = N.acts.map (durA N t) := by unfold tenL; rw [if_pos hc0]
  have e2 : tenE N t = 0 := by unfold tenE; rw [if_pos hc0]
  have hg := goodT_iff.1 hc0
  have hok := hg.ok
  have hac := hok.ac
  refine wp_skip ?_
  refine n_then ?_
  refine wp_seq ?_
  refine rg ?_
  refine st (asS rfl) ?_
  refine rg_end ?_
  refine n_then ?_
  refine wp_seq ?_
  refine wp_seq ?_
  refine rg ?_
  refine st (asI rfl) ?_
  refine rg_end ?_
  refine n_then ?_
  refine wp_block ?_
  obtain ⟨z1, hz1⟩ : ∃ z, z = w5.heap.size := ⟨_, rfl⟩
  refine lp (γ := Nat × List Int × Option Addr × Nat) [6, 7, 12, 13, 14, 15, 16, 17, 18, 19, 20, 21, 22, 23, 24, 25, 26, 27, 28, 29] (fun ⟨k, ls, ao, co⟩ => [(7, .int .i64 (k : Int)), (6, .slice ao ls.length co)]) (fun ⟨k, ls, ao, co⟩ w_ => Ext w5 w_ ∧ (k : Int) ≤ N.acts.length ∧ ls = (N.acts.take k).map (durA N t) ∧ Ow 3 encI 1 z1 w_.heap.size w_ ao co ls) (fun ⟨k, ls, ao, co⟩ => N.acts.length - k) (0, [], none, 0) ⟨rfl, rfl, trivial⟩ ⟨Out.refl _ _ _, by simp, by simp, Ow.nil (fun _ => rfl)⟩ ?_
  rintro ⟨k, ls, ao, co⟩ hav_ w11 ⟨ho12, hk, hls, hO⟩
  have hlp0 := ho12
  have hz13 := ho12.size
  replace hN := hN.ext ho12
  replace hT := hT.ext ho12
  replace hE := hE.step ho12 (.inl (Nat.le_refl _))
  replace hb2 := hb2.ext ho12
  refine wp_seq ?_
  refine wp_seq ?_
  refine rg ?_
  refine st (mvI rfl) ?_
  refine st (y_fld fld26_2 rfl) ?_
  refine st (y_lb hb2 na24 rfl rfl) ?_
  refine st (y_len Try.underlying24 rfl) ?_
  refine st (y_lss rfl rfl) ?_
  refine rg_end ?_
  refine n_then ?_
  refine cnd rfl (fun hc1 => ?_) (fun hc1 => ?_)
  ·
   try simp only [nm] at hc1
   have ha := hok.acs _ (el_mem (l := N.acts) (i := (k : Int)) (by omega) hc1)
   have hll : ls.length = k := by rw [hls]; simp; omega
   refine wp_skip ?_
   refine n_then ?_
   refine wp_seq ?_
   refine wp_block ?_
   refine rgD 10 (fun w_ => Ext w11 w_) (fun i => Nat.beq i 8 || Nat.beq i 9) mixed (by kernel_rfl) ?_
   intro w14 ho15 hs16
   refine ⟨ho15, ?_⟩
   have hx17 := ho15
   refine tn rfl (fun _ hG => mvS rfl) ?_
   refine tn rfl (fun _ hG => y_lbN (hb2.ext hG) agg26 rfl) ?_
   refine tn rfl (fun _ hG => mvS rfl) ?_
   refine tn rfl (fun _ hG => y_fld fld26_2 rfl) ?_
   refine tn rfl (fun _ hG => y_lb (hb2.ext hG) na24 rfl rfl) ?_
   refine tn rfl (fun _ hG => mvI rfl) ?_
   refine tn rfl (fun _ hG => y_ix (hN.a.ext hG) sl24 rfl (rfl) rfl (by omega) (by omega)) ?_
   refine tn rfl (fun _ hG => y_lw (hN.a.ext hG) agg43 rfl (by omega) (by omega)) ?_
   refine tc rfl cl67 (ref11_Lasts_ok N A _ _ t _ _ _ _ (el N.acts (k : Int)) _ (hN.ext hx17) (hT.ext hx17) hg ha) rfl ?_
   rintro v22 w18 ⟨rfl, ho19⟩
   have hx23 := hx17.step ho19 (.inl (Nat.le_refl _))
   have hz24 := ho19.size
   refine ⟨hx23, ?_⟩
   refine td rfl (d_bs (bsl22_1 _ _) rfl ?_)
   intro bl28 w25 hbbl28 hs27 ho26 hbl28
   have hx29 := hx23.step ho26 (.inl (Nat.le_refl _))
   have hz30 := ho26.size
   refine ⟨hx29, ?_⟩
   refine t_end ?_
   have hz31 := hx29.size
   replace hN := hN.ext hx29
   replace hT := hT.ext hx29
   replace hE := hE.step hx29 (.inl (Nat.le_refl _))
   replace hb2 := hb2.ext hx29
   replace hO := hO.ext hx29
   replace hlp0 := hlp0.step hx29 (.inl (Nat.le_refl _))
   have hrhO := hO.rng
   refine sd (d_app (xs := [durA N t (el N.acts (k : Int))]) hO sl22 infoz3 (by decide) rfl rfl rfl rfl (hbl28) (fun _ => rfl) (by simp; unfold maxLen; omega) (by simp; omega) (by omega) (by omega) ?_)
   intro ao1 co1 w32 ho33 hO'
   have hs34 := ho33.size
   clear hO; have hO := hO'; clear hO'
   have hz37 := ho33.size
   replace hN := hN.out ho33 (by first | omega | (simp only [blk_some, hi1_some] at *; omega))
   replace hT := hT.out ho33 (by first | omega | (simp only [blk_some, hi1_some] at *; omega))
   replace hE := hE.step ho33 (by first | omega | (simp only [blk_some, hi1_some] at *; omega))
   replace hb2 := hb2.out ho33 (by first | omega | (simp only [blk_some, hi1_some] at *; omega))
   replace hlp0 := hlp0.step ho33 (by first | omega | (simp only [blk_some, hi1_some] at *; omega))
   refine st (asS rfl) ?_
   refine rg_end ?_
   refine n_blk ?_
   refine n_then ?_
   refine rg ?_
   refine st (mvI rfl) ?_
   refine st (y_add rfl rfl (by omega)) ?_
   refine st (asI rfl) ?_
   refine rg_end ?_
   exact n_then ⟨(k + 1, _, _, _), _, rfl, same_lk rfl (same_h0), ⟨rfl, rfl, trivial⟩, ⟨hlp0, by omega, by rw [tkM (durA N t) hc1, hls], hO.wide (by omega)⟩, by first | omega | (dsimp only; omega)⟩
  ·
   try simp only [nm] at hc1
   have hkl : N.acts.take k = N.acts := List.take_of_length_le (by omega)
   rw [hkl] at hls
   subst hls
   refine wp_exit ?_
   refine e_then (e_then (e_blk (?_)))
   refine n_then ?_
   refine wp_seq ?_
   refine rg ?_
   refine st (mvS rfl) ?_
   refine st (asS rfl) ?_
   refine st (asI rfl) ?_
   refine rg_end ?_
   refine n_then ?_
   refine wp_ret ?_
   refine ret2 (v := (.slice _ _ _)) (v' := (.int .i64 _)) Try.results50 rfl rfl ?_
   rw [e1, e2]
   exact ⟨ao, co, rfl, Sl.wide (Ow.sl hO) (by omega) (by omega), hE⟩

set_option maxRecDepth 100000 in
theorem law12_list_ok (al : Option Addr) (cl : Nat) (l : List Int) (ll hl : Nat) (m : Nat) (w : World) (hL : Ints ll hl w al l) (hn : (l.length : Int) ≤ 9223372036854775807) (hm8 : m ≤ 512) : Cal Try.prog 14 [.slice al l.length cl, .int .i64 (m : Int)] w (fun v w' => ∃ ad c x, v = .slice ad x.length c ∧ Ints w.heap.size w'.heap.size w' ad x ∧ x.length = m ∧ (∀ q : Nat, q < m → -50 ≤ el x (q : Int) ∧ el x (q : Int) ≤ 50) ∧ Ext w w') := by
 replace hL := Ints.full hL
 have hE : Out 0 0 w w := Out.refl _ _ w
 refine enter Try.func14 rfl Try.ntmps14 rfl ?_
 refine wp_seq ?_
 refine rg ?_
 refine st (asS rfl) ?_
 refine rg_end ?_
 refine n_then ?_
 refine wp_seq ?_
 refine rg ?_
 refine st (mvI rfl) ?_
 refine sd (d_make (m := m) (lo := w.heap.size) (enc := encI) (e0 := (0 : Int)) sl22 info3 (fun _ => rfl) rfl rfl rfl (by omega) (by unfold maxLen; omega) (by omega) ?_)
 intro blx w1 hbblx hs3 ho2 hm
 have hz5 := ho2.size
 replace hL := hL.ext ho2
 replace hE := hE.step ho2 (.inl (Nat.le_refl _))
 refine st (asS rfl) ?_
 refine rg_end ?_
 refine n_then ?_
 refine wp_seq ?_
 refine rg ?_
 refine st (mvS rfl) ?_
 refine sc cl37 (keep_From_ok _ _ _ _ _ _ hL hn) rfl ?_
 rintro v10 w6 ⟨bs, rfl, hbs, hzs, hS, ho7⟩
 have hz11 := ho7.size
 replace hL := hL.ext ho7
 replace hE := hE.step ho7 (.inl (Nat.le_refl _))
 replace hm := hm.ext ho7
 refine st (asP rfl) ?_
 refine rg_end ?_
 refine n_then ?_
 refine wp_seq ?_
 refine wp_seq ?_
 refine rg ?_
 refine st (mvS rfl) ?_
 refine st (y_len Try.underlying22 rfl) ?_
 refine st (mvI rfl) ?_
 refine rg_end ?_
 refine n_then ?_
 refine wp_block ?_
 refine lp (γ := Nat × List Int) [7, 14, 15, 16, 17, 18, 19, 20, 21, 22, 23] (fun ⟨k, x⟩ => [(14, .int .i64 (k : Int))]) (fun ⟨k, x⟩ w_ => Out blx (bs + 1) w6 w_ ∧ (k : Int) ≤ m ∧ x.length = m ∧ (∀ q : Nat, q < k → -50 ≤ el x (q : Int) ∧ el x (q : Int) ≤ 50) ∧ Src 0 w.heap.size bs w_ ∧ Ow 3 encI 1 w.heap.size (blx + 1) w_ (some ⟨blx, 0, none⟩) m x) (fun ⟨k, x⟩ => m - k) (0, List.replicate m 0) ⟨rfl, trivial⟩ ⟨Out.refl _ _ _, by simp, by simp, (fun q hq => by omega), hS, hm⟩ ?_
 rintro ⟨k, x⟩ hav_ w12 ⟨ho13, hk, hxl, hrg, hS, hm⟩
 have hlp0 := ho13
 have hz14 := ho13.size
 replace hL := hL.out ho13 (by first | omega | (simp only [blk_some, hi1_some] at *; omega))
 replace hE := hE.step ho13 (by first | omega | (simp only [blk_some, hi1_some] at *; omega))
 refine wp_seq ?_
 refine rg ?_
 refine st (y_lss rfl rfl) ?_
 refine rg_end ?_
 refine n_then ?_
 refine wp_seq ?_
 refine cnd rfl (fun hc0 => ?_) (fun hc0 => ?_)
 ·
  try simp only [nm] at hc0
  refine wp_skip ?_
  refine n_then ?_
  refine wp_seq ?_
  refine wp_block ?_
  refine wp_seq ?_
  refine rg ?_
  refine st (mvI rfl) ?_
  refine st (asI rfl) ?_
  refine rg_end ?_
  refine n_then ?_
  refine rg ?_
  refine st (mvS rfl) ?_
  refine st (mvI rfl) ?_
  refine st (mvP rfl) ?_
  refine sc cl38 (keep_Next_ok bs _ _ _ _ hS (by omega) (by omega) (by omega)) rfl ?_
  rintro v19 w15 ⟨r, rfl, r0, r1, hS, ho16⟩
  have hz20 := ho16.size
  replace hL := hL.out ho16 (by first | omega | (simp only [blk_some, hi1_some] at *; omega))
  replace hE := hE.step ho16 (by first | omega | (simp only [blk_some, hi1_some] at *; omega))
  have hrnhm := hm.rng
  replace hm := hm.out ho16 (by first | omega | (simp only [blk_some, hi1_some] at *; omega))
  replace hlp0 := hlp0.step ho16 (by first | omega | (simp only [blk_some, hi1_some] at *; omega))
  refine st (y_sub rfl rfl (by omega)) ?_
  refine st (y_ix hm.sl sl22 rfl (hxl.symm) rfl (by omega) (by omega)) ?_
  refine sd0 (d_se (j := 0) (e' := (r - 50)) hm sz3 rfl rfl rfl (by omega) (by omega) (Nat.le_of_ble_eq_true rfl) rfl ?_)
  intro w21 hs23 ho22 hm'
  have hrhm := hm.rng
  clear hm; have hm := hm'; clear hm'
  have hz24 := ho22.size
  replace hL := hL.out ho22 (by first | omega | (simp only [blk_some, hi1_some] at *; omega))
  replace hE := hE.step ho22 (by first | omega | (simp only [blk_some, hi1_some] at *; omega))
  replace hS := hS.out ho22 (by first | omega | (simp only [blk_some, hi1_some] at *; omega))
  replace hlp0 := hlp0.step ho22 (by first | omega | (simp only [blk_some, hi1_some] at *; omega))
  refine rg_end ?_
  refine n_blk ?_
  refine n_then ?_
  refine rg ?_
  refine st (y_add rfl rfl (by omega)) ?_
  refine st (mvI rfl) ?_
  refine rg_end ?_
  exact n_then ⟨(k + 1, _), _, rfl, same_lk rfl (same_h0), ⟨rfl, trivial⟩, ⟨hlp0, by omega, by simp [hxl], (fun q hq => by
  by_cases e : q = k
  · subst e; rw [elSetS (by omega) (by omega)]; omega
  · rw [elSetN (by omega) (by omega) (by omega)]; exact hrg q (by omega)), hS, hm⟩, by first | omega | (dsimp only; omega)⟩
 ·
  try simp only [nm] at hc0
  refine wp_exit ?_
  refine e_then (e_then (e_blk (?_)))
  refine n_then ?_
  refine wp_seq ?_
  refine rg ?_
  refine st (mvS rfl) ?_
  refine st (asS rfl) ?_
  refine rg_end ?_
  refine n_then ?_
  refine wp_ret ?_
  refine ret1 (v := (.slice _ _ _)) Try.results14 rfl ?_
  exact ⟨_, _, x, by rw [hxl], Sl.wide hm.sl (Nat.le_refl _) (by omega), hxl, fun q hq => hrg q (by omega), hE⟩

theorem ten_len (N : Net) (t : List Int) : ((tenL N t).length : Int) ≤ 512 := by
  unfold tenL
  split
  · rename_i h
    have := (goodT_iff.1 h).ok.ac
    simp; omega
  · simp
theorem tot_same {N : Net} {arcs signs vals : List Int} {t e t' e' : Int} (p1 : ¬ CyOk N arcs signs → t = 0 ∧ e = 1) (p2 : CyOk N arcs signs → inR N vals = false → t = 0 ∧ e = 4) (p3 : CyOk N arcs signs → inR N vals = true → t = totC arcs signs vals arcs.length ∧ e = 0)
    (q1 : ¬ CyOk N arcs signs → t' = 0 ∧ e' = 1) (q2 : CyOk N arcs signs → inR N vals = false → t' = 0 ∧ e' = 4) (q3 : CyOk N arcs signs → inR N vals = true → t' = totC arcs signs vals arcs.length ∧ e' = 0) : t = t' ∧ e = e' := by
  by_cases h : CyOk N arcs signs
  · cases hr : inR N vals with
    | false => have a := p2 h hr; have b := q2 h hr; omega
    | true => have a := p3 h hr; have b := q3 h hr; omega
  · have a := p1 h; have b := q1 h; omega
theorem bool_same {b b' : Bool} {Q : Prop} (h : b = true ↔ Q) (h' : b' = true ↔ Q) : (b == b') = true := by
  cases b <;> cases b'
  · rfl
  · have := h.2 (h'.1 rfl); cases this
  · have := h'.2 (h.1 rfl); cases this
  · rfl

set_option maxHeartbeats 1000000 in
set_option maxRecDepth 100000 in
theorem law12_sums_ok (N : Net) (A : NetA) (lo hi : Nat) (arcs signs : List Int) (aa : Option Addr) (ca la ha_ : Nat) (ag : Option Addr) (cg lg hg_ : Nat) (vals : List Int) (av : Option Addr) (cv lv hv_ : Nat) (t : List Int) (at_ : Option Addr) (ct : Nat) (lt ht : Nat) (w : World) (hN : NetIn lo hi w N A) (hA : Ints la ha_ w aa arcs) (hca : arcs.length ≤ ca) (hSg : Ints lg hg_ w ag signs) (hn : (arcs.length : Int) ≤ 9223372036854775807) (hV : Ints lv hv_ w av vals) (hvn : (vals.length : Int) ≤ 9223372036854775807) (hT : Ints lt ht w at_ t)  : Cal Try.prog 22 [netV N A, .agg #[.slice aa arcs.length ca, .slice ag signs.length cg], .slice av vals.length cv, .slice at_ t.length ct] w (fun v w' => v = .bool true ∧ Ext w w') := by
 replace hN := hN.full
 replace hA := Ints.full hA
 replace hSg := Ints.full hSg
 replace hV := Ints.full hV
 replace hT := Ints.full hT
 have htl := ten_len N t
 have hE : Out 0 0 w w := Out.refl _ _ w
 refine enter Try.func22 rfl Try.ntmps22 rfl ?_
 refine wp_seq ?_
 refine rg ?_
 refine sd (d_boxA rfl ?_)
 intro b4 w1 hbb4 hs3 ho2 hb4
 have hz4 := ho2.size
 replace hN := hN.ext ho2
 replace hA := hA.ext ho2
 replace hSg := hSg.ext ho2
 replace hV := hV.ext ho2
 replace hT := hT.ext ho2
 replace hE := hE.step ho2 (.inl (Nat.le_refl _))
 refine sd (d_boxA rfl ?_)
 intro b5 w5 hbb5 hs7 ho6 hb5
 have hz8 := ho6.size
 replace hN := hN.ext ho6
 replace hA := hA.ext ho6
 replace hSg := hSg.ext ho6
 replace hV := hV.ext ho6
 replace hT := hT.ext ho6
 replace hE := hE.step ho6 (.inl (Nat.le_refl _))
 replace hb4 := hb4.ext ho6
 refine st (asB rfl) ?_
 refine rg_end ?_
 refine n_then ?_
 refine wp_seq ?_
 refine rg ?_
 refine st (y_lbN hb4 agg26 rfl) ?_
 refine st (y_lbN hb5 agg37 rfl) ?_
 refine st (mvS rfl) ?_
 refine sc cl26 (cycles_Total_ok N A _ _ arcs signs _ _ _ _ _ _ _ _ vals _ _ _ _ _ hN hA hca hSg hn hV hvn) rfl ?_
 rintro v13 w9 ⟨s1, e1, rfl, p1, p2, p3, ho10⟩
 have hz14 := ho10.size
 replace hN := hN.ext ho10
 replace hA := hA.ext ho10
 replace hSg := hSg.ext ho10
 replace hV := hV.ext ho10
 replace hT := hT.ext ho10
 replace hE := hE.step ho10 (.inl (Nat.le_refl _))
 replace hb4 := hb4.ext ho10
 replace hb5 := hb5.ext ho10
 refine st (mvT rfl) ?_
 refine st (y_ext rfl rfl) ?_
 refine st (y_ext rfl rfl) ?_
 refine st (asI rfl) ?_
 refine st (asI rfl) ?_
 refine rg_end ?_
 refine n_then ?_
 refine wp_seq ?_
 refine rg ?_
 refine st (y_lbN hb4 agg26 rfl) ?_
 refine st (y_lbN hb5 agg37 rfl) ?_
 refine st (mvS rfl) ?_
 refine sc cl16 (ref11_Total_ok N A _ _ arcs signs _ _ _ _ _ _ _ _ vals _ _ _ _ _ hN hA hca hSg hn hV hvn) rfl ?_
 rintro v19 w15 ⟨s2, e2, rfl, q1, q2, q3, ho16⟩
 obtain ⟨hse, hee⟩ := tot_same p1 p2 p3 q1 q2 q3
 have hz20 := ho16.size
 replace hN := hN.ext ho16
 replace hA := hA.ext ho16
 replace hSg := hSg.ext ho16
 replace hV := hV.ext ho16
 replace hT := hT.ext ho16
 replace hE := hE.step ho16 (.inl (Nat.le_refl _))
 replace hb4 := hb4.ext ho16
 replace hb5 := hb5.ext ho16
 refine st (mvT rfl) ?_
 refine st (y_ext rfl rfl) ?_
 refine st (y_ext rfl rfl) ?_
 refine st (asI rfl) ?_
 refine st (asI rfl) ?_
 refine rg_end ?_
 refine n_then ?_
 refine wp_seq ?_
 refine rg ?_
 refine st (y_lbN hb4 agg26 rfl) ?_
 refine st (mvS rfl) ?_
 refine sc cl25 (cycles_Tensions_ok N A _ _ t _ _ _ _ _ hN hT) rfl ?_
 rintro v25 w21 ⟨ad1, cd1, rfl, hD1, ho22⟩
 have hz26 := ho22.size
 replace hN := hN.ext ho22
 replace hA := hA.ext ho22
 replace hSg := hSg.ext ho22
 replace hV := hV.ext ho22
 replace hT := hT.ext ho22
 replace hE := hE.step ho22 (.inl (Nat.le_refl _))
 replace hb4 := hb4.ext ho22
 replace hb5 := hb5.ext ho22
 refine st (mvT rfl) ?_
 refine st (y_ext rfl rfl) ?_
 refine st (y_ext rfl rfl) ?_
 refine st (asS rfl) ?_
 refine st (asI rfl) ?_
 refine rg_end ?_
 refine n_then ?_
 refine wp_seq ?_
 refine rg ?_
 refine st (y_lbN hb4 agg26 rfl) ?_
 refine st (mvS rfl) ?_
 refine sc cl50 (ref11_Tensions_ok N A _ _ t _ _ _ _ _ hN hT) rfl ?_
 rintro v31 w27 ⟨ad2, cd2, rfl, hD2, ho28⟩
 have hz32 := ho28.size
 replace hN := hN.ext ho28
 replace hA := hA.ext ho28
 replace hSg := hSg.ext ho28
 replace hV := hV.ext ho28
 replace hT := hT.ext ho28
 replace hE := hE.step ho28 (.inl (Nat.le_refl _))
 replace hb4 := hb4.ext ho28
 replace hb5 := hb5.ext ho28
 replace hD1 := hD1.ext ho28
 refine st (mvT rfl) ?_
 refine st (y_ext rfl rfl) ?_
 refine st (y_ext rfl rfl) ?_
 refine st (asS rfl) ?_
 refine st (asI rfl) ?_
 refine rg_end ?_
 refine n_then ?_
 refine wp_seq ?_
 refine rgD 25 (fun w_ => Ext w27 w_) (fun i => Nat.beq i 2 || Nat.beq i 5 || Nat.beq i 20) mixed (by kernel_rfl) ?_
 intro w33 ho34 hs35
 refine ⟨ho34, ?_⟩
 have hx36 := ho34
 refine tn rfl (fun _ hG => y_lbN (hb4.ext hG) agg26 rfl) ?_
 refine tn rfl (fun _ hG => y_lbN (hb5.ext hG) agg37 rfl) ?_
 refine tc rfl cl24 (cycles_Check_ok N A _ _ arcs signs _ _ _ _ _ _ _ _ _ (hN.ext hx36) (hA.ext hx36) hca (hSg.ext hx36) hn) rfl ?_
 rintro v41 w37 ⟨b1, rfl, hb1, ho38⟩
 have hx42 := hx36.step ho38 (.inl (Nat.le_refl _))
 have hz43 := ho38.size
 refine ⟨hx42, ?_⟩
 refine tn rfl (fun _ hG => y_lbN (hb4.ext hG) agg26 rfl) ?_
 refine tn rfl (fun _ hG => y_lbN (hb5.ext hG) agg37 rfl) ?_
 refine tc rfl cl35 (ref11_CheckCycle_ok N A _ _ arcs signs _ _ _ _ _ _ _ _ _ (hN.ext hx42) (hA.ext hx42) hca (hSg.ext hx42) hn) rfl ?_
 rintro v48 w44 ⟨b2, rfl, hb2, ho45⟩
 have hbb := bool_same hb1 hb2
 have hx49 := hx42.step ho45 (.inl (Nat.le_refl _))
 have hz50 := ho45.size
 refine ⟨hx49, ?_⟩
 refine tn rfl (fun _ hG => y_eqlB rfl rfl Try.underlying4) ?_
 refine tn rfl (fun _ hG => mvB rfl) ?_
 refine tng rfl rfl rfl hbb (fun _ hG => mvI rfl) ?_
 refine tng rfl rfl rfl hbb (fun _ hG => mvI rfl) ?_
 refine tng rfl rfl rfl hbb (fun _ hG => y_eql rfl rfl) ?_
 refine tn rfl (fun _ hG => y_pickT rfl hbb (v := .bool _) rfl) ?_
 refine tn rfl (fun _ hG => mvB rfl) ?_
 refine tng rfl rfl rfl (decide_eq_true hse) (fun _ hG => mvI rfl) ?_
 refine tng rfl rfl rfl (decide_eq_true hse) (fun _ hG => mvI rfl) ?_
 refine tng rfl rfl rfl (decide_eq_true hse) (fun _ hG => y_eql rfl rfl) ?_
 refine tn rfl (fun _ hG => y_pickT rfl (decide_eq_true hse) (v := .bool _) rfl) ?_
 refine tn rfl (fun _ hG => mvB rfl) ?_
 refine tng rfl rfl rfl (decide_eq_true hee) (fun _ hG => mvS rfl) ?_
 refine tng rfl rfl rfl (decide_eq_true hee) (fun _ hG => mvS rfl) ?_
 refine tcg rfl rfl rfl (decide_eq_true hee) cl32 (keep_Same_int_ok (tenL N t) (tenL N t) _ _ _ _ _ _ _ _ _ (hD1.ext hx49) (hD2.ext hx49) (by omega)) rfl ?_
 rintro v55 w51 ⟨rfl, ho52⟩
 have hx56 := hx49.step ho52 (.inl (Nat.le_refl _))
 have hz57 := ho52.size
 refine ⟨hx56, ?_⟩
 refine tn rfl (fun _ hG => y_pickT rfl (decide_eq_true hee) (v := .bool _) rfl) ?_
 refine tn rfl (fun _ hG => mvB rfl) ?_
 refine tng rfl rfl rfl (decide_eq_true rfl) (fun _ hG => mvI rfl) ?_
 refine tng rfl rfl rfl (decide_eq_true rfl) (fun _ hG => mvI rfl) ?_
 refine t_end ?_
 have hz58 := hx56.size
 replace hN := hN.ext hx56
 replace hA := hA.ext hx56
 replace hSg := hSg.ext hx56
 replace hV := hV.ext hx56
 replace hT := hT.ext hx56
 replace hE := hE.step hx56 (.inl (Nat.le_refl _))
 replace hb4 := hb4.ext hx56
 replace hb5 := hb5.ext hx56
 replace hD1 := hD1.ext hx56
 replace hD2 := hD2.ext hx56
 refine stg rfl rfl (decide_eq_true rfl) (y_eql rfl rfl) ?_
 refine st (y_pickT rfl (decide_eq_true rfl) (v := .bool _) rfl) ?_
 refine st (asB rfl) ?_
 refine rg_end ?_
 refine n_then ?_
 refine wp_ret ?_
 refine ret1 (v := (.bool _)) Try.results22 rfl ?_
 exact ⟨vb (by simp), hE⟩
end Go.Proofs.Ytdgkaahghlbocaa
