/-
  Walks of the functions, printed by a program out of the code and the loops' relations.
-/
import Derived.Test.YtdgkaahghlbocaaWkD
import Derived.Test.YtdgkaahghlbocaaProg
import Derived.KernelRfl
import Derived.Test.YtdgkaahghlbocaaK1
import Derived.Test.YtdgkaahghlbocaaCz
namespace Go.Proofs.Ytdgkaahghlbocaa
open Go.Wk Go.RowKit
set_option linter.unusedVariables false
set_option linter.unusedSimpArgs false
theorem agg37 : AggOf Try.prog 37 2 := fun w => ⟨Try.isAgg37 w, Try.sizeOf37 w⟩
theorem cl24 : Callable Try.prog 24 := ⟨Try.call24⟩
theorem cl45 : Callable Try.prog 45 := ⟨Try.call45⟩
theorem cl49 : Callable Try.prog 49 := ⟨Try.call49⟩
theorem cl53 : Callable Try.prog 53 := ⟨Try.call53⟩

theorem met_ex {n : Nat} {f : Nat → Int} {m : Nat} (h1 : ∀ q : Nat, q < m → 0 ≤ f q ∧ f q < n) (h2 : ∀ i j : Nat, i < j → j < m → f i ≠ f j) : ∀ k : Nat, k ≤ m → ∃ l : List Bool, l.length = n ∧ MetTo f k l ∧ l.count true = k
  | 0, _ => ⟨List.replicate n false, by simp, MetTo.zero, by simp [List.count_replicate]⟩
  | k + 1, hk => by
    obtain ⟨l, hl, hm, hc⟩ := met_ex h1 h2 k (by omega)
    have hr := h1 k (by omega)
    have hf : el l (f k) = false := by
      cases e : el l (f k) with
      | false => rfl
      | true =>
        obtain ⟨q, hq, he⟩ := (hm (f k) hr.1 (by omega)).1 e
        exact absurd he (h2 q k hq (by omega))
    exact ⟨l.set (f k).toNat true, by simp [hl], hm.put hr.1 (by omega), by rw [cnt_set hr.1 (by omega) hf, hc]⟩
theorem inj_len {n : Nat} (m : Nat) (f : Nat → Int) (h1 : ∀ q : Nat, q < m → 0 ≤ f q ∧ f q < n) (h2 : ∀ i j : Nat, i < j → j < m → f i ≠ f j) : m ≤ n := by
  obtain ⟨l, hl, _, hc⟩ := met_ex h1 h2 m (Nat.le_refl _)
  have : l.count true ≤ l.length := List.count_le_length
  omega
theorem cy_len {N : Net} {arcs signs : List Int} (h : CyOk N arcs signs) : arcs.length ≤ N.acts.length :=
  inj_len arcs.length (fun q => el arcs (q : Int)) (fun q hq => ⟨(h.a.rng q hq).1, (h.a.rng q hq).2.1⟩) (fun i j hi hj => h.a.dist i j hi hj)

set_option maxHeartbeats 1000000 in
set_option maxRecDepth 100000 in
theorem cycles_Total_ok (N : Net) (A : NetA) (lo hi : Nat) (arcs signs : List Int) (aa : Option Addr) (ca la ha_ : Nat) (ag : Option Addr) (cg lg hg_ : Nat) (vals : List Int) (av : Option Addr) (cv lv hv_ : Nat) (w : World) (hN : NetIn lo hi w N A) (hA : Ints la ha_ w aa arcs) (hca : arcs.length ≤ ca) (hSg : Ints lg hg_ w ag signs) (hn : (arcs.length : Int) ≤ 9223372036854775807) (hV : Ints lv hv_ w av vals) (hvn : (vals.length : Int) ≤ 9223372036854775807)  : Cal Try.prog 26 [netV N A, .agg #[.slice aa arcs.length ca, .slice ag signs.length cg], .slice av vals.length cv] w (fun v w' => ∃ t e, v = .tuple #[.int .i64 t, .int .i64 e] ∧ (¬ CyOk N arcs signs → t = 0 ∧ e = 1) ∧ (CyOk N arcs signs → inR N vals = false → t = 0 ∧ e = 4) ∧ (CyOk N arcs signs → inR N vals = true → t = totC arcs signs vals arcs.length ∧ e = 0) ∧ Ext w w') := by
 replace hN := hN.full
 replace hA := Ints.full hA
 replace hSg := Ints.full hSg
 replace hV := Ints.full hV
 have hE : Out 0 0 w w := Out.refl _ _ w
 refine enter Try.func26 rfl Try.ntmps26 rfl ?_
 refine wp_seq ?_
 refine rg ?_
 refine sd (d_boxA rfl ?_)
 intro b3 w1 hbb3 hs3 ho2 hb3
 have hz4 := ho2.size
 replace hN := hN.ext ho2
 replace hA := hA.ext ho2
 replace hSg := hSg.ext ho2
 replace hV := hV.ext ho2
 replace hE := hE.step ho2 (.inl (Nat.le_refl _))
 refine sd (d_boxA rfl ?_)
 intro b4 w5 hbb4 hs7 ho6 hb4
 have hz8 := ho6.size
 replace hN := hN.ext ho6
 replace hA := hA.ext ho6
 replace hSg := hSg.ext ho6
 replace hV := hV.ext ho6
 replace hE := hE.step ho6 (.inl (Nat.le_refl _))
 replace hb3 := hb3.ext ho6
 refine st (asI rfl) ?_
 refine st (asI rfl) ?_
 refine rg_end ?_
 refine n_then ?_
 refine wp_seq ?_
 refine wp_block ?_
 refine wp_seq ?_
 refine rg ?_
 refine st (y_lbN hb3 agg26 rfl) ?_
 refine st (y_lbN hb4 agg37 rfl) ?_
 refine sc cl24 (cycles_Check_ok N A _ _ arcs signs _ _ _ _ _ _ _ _ _ hN hA hca hSg hn) rfl ?_
 rintro v13 w9 ⟨b, rfl, hb, ho10⟩
 have hz14 := ho10.size
 replace hN := hN.ext ho10
 replace hA := hA.ext ho10
 replace hSg := hSg.ext ho10
 replace hV := hV.ext ho10
 replace hE := hE.step ho10 (.inl (Nat.le_refl _))
 replace hb3 := hb3.ext ho10
 replace hb4 := hb4.ext ho10
 refine st (y_not rfl) ?_
 refine st (asB rfl) ?_
 refine rg_end ?_
 refine n_then ?_
 refine cnd rfl (fun hc0 => ?_) (fun hc0 => ?_)
 ·
  try simp only [nm] at hc0
  have hno : ¬ CyOk N arcs signs := fun h => by rw [hb.2 h] at hc0; cases hc0
  refine wp_seq ?_
  refine rg ?_
  refine st (asI rfl) ?_
  refine st (asI rfl) ?_
  refine rg_end ?_
  refine n_then ?_
  refine wp_ret ?_
  refine r_blk (r_then (ret2 (v := (.int .i64 _)) (v' := (.int .i64 _)) Try.results26 rfl rfl ?_))
  exact ⟨0, 1, rfl, fun _ => ⟨rfl, rfl⟩, fun h => absurd h hno, fun h => absurd h hno, hE⟩
 ·
  try simp only [nm] at hc0
  have hcy := hb.1 hc0
  have hac := hcy.ok.ac
  refine wp_seq ?_
  refine rg ?_
  refine st (y_lbN hb3 agg26 rfl) ?_
  refine st (mvS rfl) ?_
  refine sc cl45 (cycles_inRange_ok N A _ _ vals _ _ _ _ _ hN hV hvn) rfl ?_
  rintro v19 w15 ⟨rfl, ho16⟩
  have hz20 := ho16.size
  replace hN := hN.ext ho16
  replace hA := hA.ext ho16
  replace hSg := hSg.ext ho16
  replace hV := hV.ext ho16
  replace hE := hE.step ho16 (.inl (Nat.le_refl _))
  replace hb3 := hb3.ext ho16
  replace hb4 := hb4.ext ho16
  refine st (y_not rfl) ?_
  refine st (asB rfl) ?_
  refine rg_end ?_
  refine n_then ?_
  refine cnd rfl (fun hc1 => ?_) (fun hc1 => ?_)
  ·
   try simp only [nm] at hc1
   refine wp_seq ?_
   refine rg ?_
   refine st (asI rfl) ?_
   refine st (asI rfl) ?_
   refine rg_end ?_
   refine n_then ?_
   refine wp_ret ?_
   refine r_blk (r_then (ret2 (v := (.int .i64 _)) (v' := (.int .i64 _)) Try.results26 rfl rfl ?_))
   exact ⟨0, 4, rfl, fun h => absurd hcy h, fun _ _ => ⟨rfl, rfl⟩, fun _ h => (by rw [hc1] at h; cases h), hE⟩
  ·
   try simp only [nm] at hc1
   obtain ⟨r1, r2⟩ := inR_iff.1 hc1
   have hlen := hcy.len
   refine wp_skip ?_
   refine n_blk ?_
   refine n_then ?_
   refine wp_seq ?_
   refine rg ?_
   have hal0 : arcs.length ≤ 512 := by have := cy_len hcy; omega
   refine st (asI rfl) ?_
   refine rg_end ?_
   refine n_then ?_
   refine wp_seq ?_
   refine wp_seq ?_
   refine rg ?_
   refine st (y_fld fld37_0 rfl) ?_
   refine st (y_lb hb4 na22 rfl rfl) ?_
   refine st (y_len Try.underlying22 rfl) ?_
   refine st (mvI rfl) ?_
   refine rg_end ?_
   refine n_then ?_
   refine wp_block ?_
   refine lp (γ := Nat) [8, 9, 10, 24, 25, 26, 27, 28, 29, 30, 31, 32, 33, 34, 35, 36, 37, 38, 39, 40, 41] (fun k => [(24, .int .i64 (k : Int)), (8, .int .i64 (totC arcs signs vals k))]) (fun k w_ => Ext w15 w_ ∧ (k : Int) ≤ arcs.length) (fun k => arcs.length - k) 0 ⟨rfl, rfl, trivial⟩ ⟨Out.refl _ _ _, by omega⟩ ?_
   rintro k hav_ w21 ⟨ho22, hk⟩
   have hlp0 := ho22
   have hz23 := ho22.size
   replace hN := hN.ext ho22
   replace hA := hA.ext ho22
   replace hSg := hSg.ext ho22
   replace hV := hV.ext ho22
   replace hE := hE.step ho22 (.inl (Nat.le_refl _))
   replace hb3 := hb3.ext ho22
   replace hb4 := hb4.ext ho22
   refine wp_seq ?_
   refine rg ?_
   refine st (y_lss rfl rfl) ?_
   refine rg_end ?_
   refine n_then ?_
   refine wp_seq ?_
   refine cnd rfl (fun hc2 => ?_) (fun hc2 => ?_)
   ·
    try simp only [nm] at hc2
    obtain ⟨i0, i1, i2⟩ := hcy.a.rng k (by omega)
    have hv1 := r2 (el arcs (k : Int)).toNat (by omega)
    rw [Int.toNat_of_nonneg i0] at hv1
    have hb1 := tot_rng hcy.a hc1 (k + 1) (by omega)
    rw [totC] at hb1
    have hal : arcs.length ≤ 512 := hal0
    have hpr : -131072 ≤ el signs (k : Int) * el vals (el arcs (k : Int)) ∧ el signs (k : Int) * el vals (el arcs (k : Int)) ≤ 131072 := by rcases i2 with e | e <;> rw [e] <;> omega
    refine wp_skip ?_
    refine n_then ?_
    refine wp_seq ?_
    refine wp_block ?_
    refine wp_seq ?_
    refine rg ?_
    refine st (mvI rfl) ?_
    refine st (y_ix hA sl22 rfl (rfl) rfl (by omega) (by omega)) ?_
    refine st (y_le hA na3 rfl (by omega) (by omega) rfl) ?_
    refine st (asI rfl) ?_
    refine st (asI rfl) ?_
    refine rg_end ?_
    refine n_then ?_
    refine rgD 11 (fun w_ => Ext w21 w_) (fun i => false) mixed (by kernel_rfl) ?_
    intro w24 ho25 hs26
    refine ⟨ho25, ?_⟩
    have hx27 := ho25
    refine tn rfl (fun _ hG => mvI rfl) ?_
    refine tn rfl (fun _ hG => y_fld fld37_1 rfl) ?_
    refine tn rfl (fun _ hG => y_lb (hb4.ext hG) na22 rfl rfl) ?_
    refine tn rfl (fun _ hG => mvI rfl) ?_
    refine tn rfl (fun _ hG => y_ix (hSg.ext hG) sl22 rfl (rfl) rfl (by omega) (by omega)) ?_
    refine tn rfl (fun _ hG => y_le (hSg.ext hG) na3 rfl (by omega) (by omega) rfl) ?_
    refine tn rfl (fun _ hG => mvS rfl) ?_
    refine tn rfl (fun _ hG => mvI rfl) ?_
    refine tn rfl (fun _ hG => y_ix (hV.ext hG) sl22 rfl (rfl) rfl (by omega) (by omega)) ?_
    refine tn rfl (fun _ hG => y_le (hV.ext hG) na3 rfl (by omega) (by omega) rfl) ?_
    refine tn rfl (fun _ hG => y_mul rfl rfl (by omega)) ?_
    refine t_end ?_
    have hz28 := hx27.size
    replace hN := hN.ext hx27
    replace hA := hA.ext hx27
    replace hSg := hSg.ext hx27
    replace hV := hV.ext hx27
    replace hE := hE.step hx27 (.inl (Nat.le_refl _))
    replace hb3 := hb3.ext hx27
    replace hb4 := hb4.ext hx27
    replace hlp0 := hlp0.step hx27 (.inl (Nat.le_refl _))
    refine st (y_add rfl rfl (by omega)) ?_
    refine st (asI rfl) ?_
    refine rg_end ?_
    refine n_blk ?_
    refine n_then ?_
    refine rg ?_
    refine st (y_add rfl rfl (by omega)) ?_
    refine st (mvI rfl) ?_
    refine rg_end ?_
    exact n_then ⟨k + 1, _, rfl, same_lk rfl (same_h0), ⟨rfl, rfl, trivial⟩, ⟨hlp0, by omega⟩, by first | omega | (dsimp only; omega)⟩
   ·
    try simp only [nm] at hc2
    have hkl : k = arcs.length := by omega
    subst hkl
    refine wp_exit ?_
    refine e_then (e_then (e_blk (?_)))
    refine n_then ?_
    refine wp_seq ?_
    refine rg ?_
    refine st (mvI rfl) ?_
    refine st (asI rfl) ?_
    refine st (asI rfl) ?_
    refine rg_end ?_
    refine n_then ?_
    refine wp_ret ?_
    refine ret2 (v := (.int .i64 _)) (v' := (.int .i64 _)) Try.results26 rfl rfl ?_
    exact ⟨_, 0, rfl, fun h => absurd hcy h, fun _ h => (by rw [hc1] at h; cases h), fun _ _ => ⟨rfl, rfl⟩, hE⟩

theorem nilS0 {α : Type} {enc : α → List Value} {sz lo hi : Nat} {w : World} : Sl enc sz lo hi w none ([] : List α) := ⟨fun h => absurd rfl h, fun i x hx => by simp at hx⟩
theorem elMapC {α β : Type} [Inhabited α] [Inhabited β] {l : List α} {g : α → β} {i : Int} (h0 : 0 ≤ i) (h1 : i < l.length) : el (l.map g) i = g (el l i) := by
  have h : i.toNat < l.length := by omega
  simp [el, List.getD_eq_getElem?_getD, h]

set_option maxHeartbeats 1000000 in
set_option maxRecDepth 100000 in
theorem cycles_Tensions_ok (N : Net) (A : NetA) (lo hi : Nat) (t : List Int) (at_ : Option Addr) (ct : Nat) (lt ht : Nat) (w : World) (hN : NetIn lo hi w N A) (hT : Ints lt ht w at_ t)  : Cal Try.prog 25 [netV N A, .slice at_ t.length ct] w (fun v w' => ∃ ad c, v = .tuple #[.slice ad (tenL N t).length c, .int .i64 (tenE N t)] ∧ Ints w.heap.size w'.heap.size w' ad (tenL N t) ∧ Ext w w') := by
 replace hN := hN.full
 replace hT := Ints.full hT
 have hE : Out 0 0 w w := Out.refl _ _ w
 refine enter Try.func25 rfl Try.ntmps25 rfl ?_
 refine wp_seq ?_
 refine rg ?_
 refine sd (d_boxA rfl ?_)
 intro b2 w1 hbb2 hs3 ho2 hb2
 have hz4 := ho2.size
 replace hN := hN.ext ho2
 replace hT := hT.ext ho2
 replace hE := hE.step ho2 (.inl (Nat.le_refl _))
 refine st (asS rfl) ?_
 refine st (asI rfl) ?_
 refine rg_end ?_
 refine n_then ?_
 refine wp_seq ?_
 refine wp_seq ?_
 refine rg ?_
 refine st (y_lbN hb2 agg26 rfl) ?_
 refine st (mvS rfl) ?_
 refine sc cl53 (network_Good_ok N A _ _ t _ _ _ _ _ hN hT) rfl ?_
 rintro v9 w5 ⟨rfl, ho6⟩
 have hz10 := ho6.size
 replace hN := hN.ext ho6
 replace hT := hT.ext ho6
 replace hE := hE.step ho6 (.inl (Nat.le_refl _))
 replace hb2 := hb2.ext ho6
 refine st (y_not rfl) ?_
 refine rg_end ?_
 refine n_then ?_
 refine cnd rfl (fun hc0 => ?_) (fun hc0 => ?_)
 ·
  try simp only [nm] at hc0
  have e1 : tenL N t = [] := by unfold tenL; rw [if_neg (by rw [hc0]; decide)]
  have e2 : tenE N t = 1 := by unfold tenE; rw [if_neg (by rw [hc0]; decide)]
  refine wp_seq ?_
  refine rg ?_
  refine st (asS rfl) ?_
  refine st (asI rfl) ?_
  refine rg_end ?_
  refine n_then ?_
  refine wp_ret ?_
  refine r_then (ret2 (v := (.slice _ _ _)) (v' := (.int .i64 _)) Try.results25 rfl rfl ?_)
  rw [e1, e2]
  exact ⟨none, 0, rfl, nilS0, hE⟩
 ·
  try simp only [nm] at hc0
  have e1 : tenL N t = N.acts.map (durA N t) := by unfold tenL; rw [if_pos hc0]
  have e2 : tenE N t = 0 := by unfold tenE; rw [if_pos hc0]
  have hg := goodT_iff.1 hc0
  have hok := hg.ok
  have hac := hok.ac
  have hp2 := hok.p2
  have hp7 := hok.p7
  have htl := hg.len
  refine wp_skip ?_
  refine n_then ?_
  refine wp_seq ?_
  refine rg ?_
  refine st (y_fld fld26_2 rfl) ?_
  refine st (y_lb hb2 na24 rfl rfl) ?_
  refine st (y_len Try.underlying24 rfl) ?_
  refine sd (d_make (m := N.acts.length) (lo := w5.heap.size) (enc := encI) (e0 := (0 : Int)) sl22 info3 (fun _ => rfl) rfl rfl rfl (by omega) (by unfold maxLen; omega) (by omega) ?_)
  intro bd w11 hbbd hs13 ho12 hD
  have hz15 := ho12.size
  replace hN := hN.ext ho12
  replace hT := hT.ext ho12
  replace hE := hE.step ho12 (.inl (Nat.le_refl _))
  replace hb2 := hb2.ext ho12
  refine st (asS rfl) ?_
  refine rg_end ?_
  refine n_then ?_
  refine wp_seq ?_
  refine wp_seq ?_
  refine rg ?_
  refine st (y_fld fld26_2 rfl) ?_
  refine st (y_lb hb2 na24 rfl rfl) ?_
  refine st (y_len Try.underlying24 rfl) ?_
  refine st (mvI rfl) ?_
  refine rg_end ?_
  refine n_then ?_
  refine wp_block ?_
  refine lp (γ := Nat × List Int) [7, 8, 20, 21, 22, 23, 24, 25, 26, 27, 28, 29, 30, 31, 32, 33, 34, 35, 36, 37, 38, 39, 40, 41, 42, 43, 44, 45, 46, 47, 48] (fun ⟨k, D⟩ => [(20, .int .i64 (k : Int))]) (fun ⟨k, D⟩ w_ => Out bd (bd + 1) w11 w_ ∧ (k : Int) ≤ N.acts.length ∧ D.length = N.acts.length ∧ (∀ q : Nat, q < k → el D (q : Int) = durA N t (el N.acts (q : Int))) ∧ Ow 3 encI 1 bd (bd + 1) w_ (some ⟨bd, 0, none⟩) N.acts.length D) (fun ⟨k, D⟩ => N.acts.length - k) (0, List.replicate N.acts.length 0) ⟨rfl, trivial⟩ ⟨Out.refl _ _ _, by simp, by simp, (fun q hq => by omega), hD.lower (by omega)⟩ ?_
  rintro ⟨k, D⟩ hav_ w16 ⟨ho17, hk, hDl, hDv, hD⟩
  have hlp0 := ho17
  have hz18 := ho17.size
  replace hN := hN.out ho17 (by first | omega | (simp only [blk_some, hi1_some] at *; omega))
  replace hT := hT.out ho17 (by first | omega | (simp only [blk_some, hi1_some] at *; omega))
  replace hE := hE.step ho17 (by first | omega | (simp only [blk_some, hi1_some] at *; omega))
  replace hb2 := hb2.out ho17 (by first | omega | (simp only [blk_some, hi1_some] at *; omega))
  refine wp_seq ?_
  refine rg ?_
  refine st (y_lss rfl rfl) ?_
  refine rg_end ?_
  refine n_then ?_
  refine wp_seq ?_
  refine cnd rfl (fun hc1 => ?_) (fun hc1 => ?_)
  ·
   try simp only [nm] at hc1
   have ha := hok.acs _ (el_mem (l := N.acts) (i := (k : Int)) (by omega) hc1)
   have b1 := hg.rng _ (el_mem (l := t) ha.t0 (by rw [hg.len]; exact ha.t1))
   have b2 := hg.rng _ (el_mem (l := t) ha.f0 (by rw [hg.len]; exact ha.f1))
   obtain ⟨f0, f1, t0, t1, ne, m0, m1, m2, m3, _, _⟩ := ha
   have hm1 := Int.emod_nonneg (el t (el N.acts (k : Int)).tt - el t (el N.acts (k : Int)).fr - (el N.acts (k : Int)).mn) (b := N.p) (by omega)
   have hm2 := Int.emod_lt_of_pos (el t (el N.acts (k : Int)).tt - el t (el N.acts (k : Int)).fr - (el N.acts (k : Int)).mn) (b := N.p) (by omega)
   refine wp_skip ?_
   refine n_then ?_
   refine wp_seq ?_
   refine wp_block ?_
   refine wp_seq ?_
   refine rg ?_
   refine st (mvI rfl) ?_
   refine st (y_ix hN.a sl24 rfl (rfl) rfl (by omega) (by omega)) ?_
   refine st (y_lw hN.a agg43 rfl (by omega) (by omega)) ?_
   refine sd (d_allocA zer43 ?_)
   intro b8 w19 hbb8 hs21 ho20 hb8
   have hz22 := ho20.size
   replace hN := hN.ext ho20
   replace hT := hT.ext ho20
   replace hE := hE.step ho20 (.inl (Nat.le_refl _))
   replace hb2 := hb2.ext ho20
   replace hD := hD.ext ho20
   replace hlp0 := hlp0.step ho20 (.inl (Nat.le_refl _))
   refine st (asI rfl) ?_
   refine sd0 (d_stN hb8 rfl rfl sz43 rfl rfl ?_)
   intro w23 hs25 ho24 hb8'
   clear hb8; have hb8 := hb8'; clear hb8'
   have hz26 := ho24.size
   replace hN := hN.out ho24 (by first | omega | (simp only [blk_some, hi1_some] at *; omega))
   replace hT := hT.out ho24 (by first | omega | (simp only [blk_some, hi1_some] at *; omega))
   replace hE := hE.step ho24 (by first | omega | (simp only [blk_some, hi1_some] at *; omega))
   replace hb2 := hb2.out ho24 (by first | omega | (simp only [blk_some, hi1_some] at *; omega))
   have hrnhD := hD.rng
   replace hD := hD.out ho24 (by first | omega | (simp only [blk_some, hi1_some] at *; omega))
   replace hlp0 := hlp0.step ho24 (by first | omega | (simp only [blk_some, hi1_some] at *; omega))
   refine rg_end ?_
   refine n_then ?_
   refine rgD 22 (fun w_ => Ext w23 w_) (fun i => Nat.beq i 20) mixed (by kernel_rfl) ?_
   intro w27 ho28 hs29
   refine ⟨ho28, ?_⟩
   have hx30 := ho28
   refine tn rfl (fun _ hG => mvS rfl) ?_
   refine tn rfl (fun _ hG => mvI rfl) ?_
   refine tn rfl (fun _ hG => y_fld fld43_3 rfl) ?_
   refine tn rfl (fun _ hG => y_lb (hb8.ext hG) na3 rfl rfl) ?_
   refine tn rfl (fun _ hG => mvS rfl) ?_
   refine tn rfl (fun _ hG => y_fld fld43_2 rfl) ?_
   refine tn rfl (fun _ hG => y_lb (hb8.ext hG) na3 rfl rfl) ?_
   refine tn rfl (fun _ hG => y_ix (hT.ext hG) sl22 rfl (rfl) rfl (by omega) (by omega)) ?_
   refine tn rfl (fun _ hG => y_le (hT.ext hG) na3 rfl (by omega) (by omega) rfl) ?_
   refine tn rfl (fun _ hG => mvS rfl) ?_
   refine tn rfl (fun _ hG => y_fld fld43_1 rfl) ?_
   refine tn rfl (fun _ hG => y_lb (hb8.ext hG) na3 rfl rfl) ?_
   refine tn rfl (fun _ hG => y_ix (hT.ext hG) sl22 rfl (rfl) rfl (by omega) (by omega)) ?_
   refine tn rfl (fun _ hG => y_le (hT.ext hG) na3 rfl (by omega) (by omega) rfl) ?_
   refine tn rfl (fun _ hG => y_sub rfl rfl (by omega)) ?_
   refine tn rfl (fun _ hG => y_fld fld43_3 rfl) ?_
   refine tn rfl (fun _ hG => y_lb (hb8.ext hG) na3 rfl rfl) ?_
   refine tn rfl (fun _ hG => y_sub rfl rfl (by omega)) ?_
   refine tn rfl (fun _ hG => y_fld fld26_0 rfl) ?_
   refine tn rfl (fun _ hG => y_lb (hb2.ext hG) na3 rfl rfl) ?_
   refine tc rfl cl49 (arith_Mod_ok _ _ _ (by omega) (by omega) (by omega)) rfl ?_
   rintro v35 w31 ⟨rfl, ho32⟩
   have hx36 := hx30.step ho32 (.inl (Nat.le_refl _))
   have hz37 := ho32.size
   refine ⟨hx36, ?_⟩
   refine tn rfl (fun _ hG => y_add rfl rfl (by omega)) ?_
   refine t_end ?_
   have hz38 := hx36.size
   replace hN := hN.ext hx36
   replace hT := hT.ext hx36
   replace hE := hE.step hx36 (.inl (Nat.le_refl _))
   replace hb2 := hb2.ext hx36
   replace hD := hD.ext hx36
   replace hlp0 := hlp0.step hx36 (.inl (Nat.le_refl _))
   replace hb8 := hb8.ext hx36
   refine st (y_ix hD.sl sl22 rfl (hDl.symm) rfl (by omega) (by omega)) ?_
   refine sd0 (d_se (j := 0) (e' := durA N t (el N.acts (k : Int))) hD sz3 rfl rfl rfl (by omega) (by omega) (Nat.le_of_ble_eq_true rfl) rfl ?_)
   intro w39 hs41 ho40 hD'
   have hrhD := hD.rng
   clear hD; have hD := hD'; clear hD'
   have hz42 := ho40.size
   replace hN := hN.out ho40 (by first | omega | (simp only [blk_some, hi1_some] at *; omega))
   replace hT := hT.out ho40 (by first | omega | (simp only [blk_some, hi1_some] at *; omega))
   replace hE := hE.step ho40 (by first | omega | (simp only [blk_some, hi1_some] at *; omega))
   replace hb2 := hb2.out ho40 (by first | omega | (simp only [blk_some, hi1_some] at *; omega))
   replace hlp0 := hlp0.step ho40 (by first | omega | (simp only [blk_some, hi1_some] at *; omega))
   replace hb8 := hb8.out ho40 (by first | omega | (simp only [blk_some, hi1_some] at *; omega))
   refine rg_end ?_
   refine n_blk ?_
   refine n_then ?_
   refine rg ?_
   refine st (y_add rfl rfl (by omega)) ?_
   refine st (mvI rfl) ?_
   refine rg_end ?_
   exact n_then ⟨(k + 1, _), _, rfl, same_lk rfl (same_h0), ⟨rfl, trivial⟩, ⟨hlp0, by omega, by simp [hDl], (fun q hq => by
  by_cases e : q = k
  · subst e; exact elSetS (by omega) (by omega)
  · rw [elSetN (by omega) (by omega) (by omega)]; exact hDv q (by omega)), hD⟩, by first | omega | (dsimp only; omega)⟩
  ·
   try simp only [nm] at hc1
   have hkl : k = N.acts.length := by omega
   subst hkl
   refine wp_exit ?_
   refine e_then (e_then (e_blk (?_)))
   refine n_then ?_
   refine wp_seq ?_
   refine rg ?_
   refine st (mvS rfl) ?_
   refine st (asS rfl) ?_
   refine st (asI rfl) ?_
   refine rg_end ?_
   refine n_then ?_
   refine wp_ret ?_
   refine ret2 (v := (.slice _ _ _)) (v' := (.int .i64 _)) Try.results25 rfl rfl ?_
   have hDe : D = N.acts.map (durA N t) := extEl (by simp [hDl]) (fun i i0 i1 => by
     have := hDv i.toNat (by omega)
     rw [Int.toNat_of_nonneg i0] at this
     rw [this, elMapC i0 (by omega)])
   rw [e1, e2, ← hDe]
   exact ⟨some ⟨bd, 0, none⟩, N.acts.length, by rw [hDl], Sl.wide hD.sl (by omega) (by omega), hE⟩

set_option maxRecDepth 100000 in
theorem ref11_has_ok (l : List Int) (al : Option Addr) (cl ll hl : Nat) (x : Int) (m : Nat) (w : World) (hm : l.length = m) (hL : Ints ll hl w al l) (hn : (l.length : Int) ≤ 9223372036854775807) : Cal Try.prog 41 [.slice al m cl, .int .i64 x] w (fun v w' => v = .bool (decide (x ∈ l)) ∧ Ext w w') := by
 subst hm
 replace hL := Ints.full hL
 have hE : Out 0 0 w w := Out.refl _ _ w
 refine enter Try.func41 rfl Try.ntmps41 rfl ?_
 refine wp_seq ?_
 refine rg ?_
 refine st (asB rfl) ?_
 refine rg_end ?_
 refine n_then ?_
 refine wp_seq ?_
 refine wp_seq ?_
 refine rg ?_
 refine st (asI rfl) ?_
 refine rg_end ?_
 refine n_then ?_
 refine wp_block ?_
 refine lp (γ := Nat) [4, 5, 6, 7, 8, 9, 10, 11, 12, 13, 14, 15, 16, 17] (fun k => [(5, .int .i64 (k : Int))]) (fun k w_ => Ext w w_ ∧ (k : Int) ≤ l.length ∧ ∀ q : Nat, q < k → el l (q : Int) ≠ x) (fun k => l.length - k) 0 ⟨rfl, trivial⟩ ⟨Out.refl _ _ _, by omega, fun q hq => by omega⟩ ?_
 rintro k hav_ w1 ⟨ho2, hk, hall⟩
 have hlp0 := ho2
 have hz3 := ho2.size
 replace hL := hL.ext ho2
 replace hE := hE.step ho2 (.inl (Nat.le_refl _))
 refine wp_seq ?_
 refine wp_seq ?_
 refine rg ?_
 refine st (mvI rfl) ?_
 refine st (mvS rfl) ?_
 refine st (y_len Try.underlying22 rfl) ?_
 refine st (y_lss rfl rfl) ?_
 refine rg_end ?_
 refine n_then ?_
 refine cnd rfl (fun hc0 => ?_) (fun hc0 => ?_)
 ·
  try simp only [nm] at hc0
  refine wp_skip ?_
  refine n_then ?_
  refine wp_seq ?_
  refine wp_block ?_
  refine wp_seq ?_
  refine rg ?_
  refine st (mvS rfl) ?_
  refine st (mvI rfl) ?_
  refine st (y_ix hL sl22 rfl (rfl) rfl (by omega) (by omega)) ?_
  refine st (y_le hL na3 rfl (by omega) (by omega) rfl) ?_
  refine st (mvI rfl) ?_
  refine st (y_eql rfl rfl) ?_
  refine rg_end ?_
  refine n_then ?_
  refine cnd rfl (fun hc1 => ?_) (fun hc1 => ?_)
  ·
   try simp only [nm] at hc1
   have hin : x ∈ l := hc1 ▸ el_mem (by omega) (by omega)
   refine wp_seq ?_
   refine rg ?_
   refine st (asB rfl) ?_
   refine rg_end ?_
   refine n_then ?_
   refine wp_ret ?_
   refine r_blk (r_then (r_then (r_blk (r_then (ret1 (v := (.bool _)) Try.results41 rfl ?_)))))
   exact ⟨vb (by simp [hin]), hE⟩
  ·
   try simp only [nm] at hc1
   have hall1 : ∀ q : Nat, q < k + 1 → el l (q : Int) ≠ x := fun q hq => by
     by_cases e : q = k
     · subst e; exact hc1
     · exact hall q (by omega)
   refine wp_skip ?_
   refine n_blk ?_
   refine n_then ?_
   refine rg ?_
   refine st (mvI rfl) ?_
   refine st (y_add rfl rfl (by omega)) ?_
   refine st (asI rfl) ?_
   refine rg_end ?_
   exact n_then ⟨k + 1, _, rfl, same_lk rfl (same_h0), ⟨rfl, trivial⟩, ⟨hlp0, by omega, hall1⟩, by first | omega | (dsimp only; omega)⟩
 ·
  try simp only [nm] at hc0
  have hni : ¬ x ∈ l := fun h => by
    obtain ⟨i, hi, e⟩ := List.getElem_of_mem h
    exact hall i (by omega) (by simpa [el, hi] using e)
  refine wp_exit ?_
  refine e_then (e_then (e_blk (?_)))
  refine n_then ?_
  refine wp_seq ?_
  refine rg ?_
  refine st (asB rfl) ?_
  refine rg_end ?_
  refine n_then ?_
  refine wp_ret ?_
  refine ret1 (v := (.bool _)) Try.results41 rfl ?_
  exact ⟨vb (by simp [hni]), hE⟩
end Go.Proofs.Ytdgkaahghlbocaa
