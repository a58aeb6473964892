/-
  Walks of the functions, printed by a program out of the code and the loops' relations.
-/
import Derived.Test.YtclligkngjhihaaWkD
import Derived.Test.YtclligkngjhihaaProg
import Derived.KernelRfl
import Derived.Test.YtclligkngjhihaaM1
namespace Go.Proofs.Ytclligkngjhihaa
open Go.Wk Go.RowKit
set_option linter.unusedVariables false
set_option linter.unusedSimpArgs false
theorem cl21 : Callable Try.prog 21 := ⟨Try.call21⟩
theorem cl26 : Callable Try.prog 26 := ⟨Try.call26⟩
theorem cl27 : Callable Try.prog 27 := ⟨Try.call27⟩
theorem cl28 : Callable Try.prog 28 := ⟨Try.call28⟩
theorem sz58 : SzOf Try.prog 58 2 := Try.sizeOf58
theorem zer58 : ZeroOf Try.prog 58 (.agg [.slice none 0 0, .slice none 0 0].toArray) := Try.zeroValue58

/-- The numbers below 'k' that belong to a list, in ascending order. -/
structure Mem (arcs : List Int) (k : Int) (s : List Int) : Prop where
  asc : ascB k (-1) s = true
  mem : ∀ i : Int, i ∈ s ↔ (0 ≤ i ∧ i < k) ∧ i ∈ arcs
theorem Mem.zero {arcs : List Int} : Mem arcs 0 [] := ⟨rfl, fun i => ⟨fun h => (by cases h), fun h => by have := h.1; omega⟩⟩
theorem Mem.pass {arcs s : List Int} {k : Int} (h : Mem arcs k s) (hk : ¬ k ∈ arcs) : Mem arcs (k + 1) s := ⟨asc_mono (by omega : k ≤ k + 1) s (-1) h.asc, fun i => by
  rw [h.mem]
  constructor
  · rintro ⟨h1, h2⟩; exact ⟨by omega, h2⟩
  · rintro ⟨h1, h2⟩
    refine ⟨⟨h1.1, ?_⟩, h2⟩
    have : i ≠ k := fun e => hk (e ▸ h2)
    omega⟩
theorem Mem.add {arcs s : List Int} {k : Int} (h : Mem arcs k s) (h0 : 0 ≤ k) (hk : k ∈ arcs) : Mem arcs (k + 1) (s ++ [k]) := ⟨asc_snoc s (-1) h.asc (by omega), fun i => by
  rw [List.mem_append, List.mem_singleton, h.mem]
  constructor
  · rintro (⟨h1, h2⟩ | e)
    · exact ⟨by omega, h2⟩
    · subst e; exact ⟨by omega, hk⟩
  · rintro ⟨h1, h2⟩
    by_cases e : i = k
    · exact .inr e
    · exact .inl ⟨by omega, h2⟩⟩
/-- Within the search for one number. -/
def Hit (arcs s s1 : List Int) (k : Int) (q : Nat) : Prop := (s1 = s ∧ ∀ j : Nat, j < q → el arcs (j : Int) ≠ k) ∨ (s1 = s ++ [k] ∧ ∃ j : Nat, j < q ∧ el arcs (j : Int) = k)
theorem Hit.len {arcs s s1 : List Int} {k : Int} {q : Nat} (h : Hit arcs s s1 k q) : s1.length ≤ s.length + 1 := by
  rcases h with ⟨e, _⟩ | ⟨e, _⟩ <;> rw [e] <;> simp
theorem Hit.done {arcs s s1 : List Int} {k : Int} {q : Nat} (h : Hit arcs s s1 k q) (hq : q = arcs.length) (hm : Mem arcs k s) (h0 : 0 ≤ k) : Mem arcs (k + 1) s1 := by
  rcases h with ⟨e, h⟩ | ⟨e, j, h1, h2⟩
  · rw [e]
    refine hm.pass fun hk => ?_
    obtain ⟨i, hi, he⟩ := List.getElem_of_mem hk
    exact h i (by omega) (by simp [el, hi, he])
  · rw [e]
    exact hm.add h0 (by rw [← h2]; exact el_mem (by omega) (by omega))
theorem cyc_inf {N : Net} {arcs signs s : List Int} (hc : CyOk N arcs signs) (hm : Mem arcs N.acts.length s) (hno : ∀ z : Int, bsC N arcs signs arcs.length - bwC N arcs signs arcs.length ≤ z * N.p → z * N.p ≤ bsC N arcs signs arcs.length + fwC N arcs signs arcs.length → False) : ∀ t, feas (subN N s) t = false := fun t => by
  cases e : feas (subN N s) t with
  | false => rfl
  | true =>
    obtain ⟨hg, ha⟩ := feas_iff.1 e
    obtain ⟨z, z1, z2⟩ := cyc_wind2 (x := t) hc (fun j hj => by
      obtain ⟨r0, r1, _⟩ := hc.a.rng j hj
      exact ha _ (List.mem_map.2 ⟨el arcs (j : Int), (hm.mem _).2 ⟨⟨r0, r1⟩, el_mem (by omega) (by omega)⟩, rfl⟩))
    exact (hno z z1 z2).elim

set_option maxHeartbeats 4000000 in
set_option maxRecDepth 100000 in
theorem law18_ContradictionOfACycle_ok (a0 : Option Addr) (c0 : Nat) (l0 : List Int) (pk : Int) (w : World) (hL0 : Ints 0 w.heap.size w a0 l0) (hl0 : (l0.length : Int) ≤ 9223372036854775807) : Cal Try.prog 7 [.slice a0 l0.length c0, .int .i64 pk] w (fun v w' => v = .bool true ∧ Ext w w') := by
 have hE : Out 0 0 w w := Out.refl _ _ w
 refine enter Try.func7 rfl Try.ntmps7 rfl ?_
 refine wp_seq ?_
 refine rg ?_
 refine st (asB rfl) ?_
 refine rg_end ?_
 refine n_then ?_
 refine wp_seq ?_
 refine rg ?_
 refine st (mvS rfl) ?_
 refine sc cl18 (keep_Network_ok _ _ _ _ _ _ hL0 hl0) rfl ?_
 rintro v5 w1 ⟨N, A, rfl, hsm, hev, hac, hdis, ho2⟩
 have hN : NetIn _ _ _ N A := ⟨Ow.sl hev, Ow.sl hac⟩
 clear hev hac
 have hok := hsm.1
 have hev1 := hok.ev
 have hac8 := hsm.2.2.2.2.2.1
 have hp2 := hsm.2.1
 have hp9 := hsm.2.2.1
 have hz6 := ho2.size
 replace hL0 := hL0.ext ho2
 replace hE := hE.step ho2 (.inl (Nat.le_refl _))
 refine sd (d_allocA zer26 ?_)
 intro b5 w7 hbb5 hs9 ho8 hb5
 have hz10 := ho8.size
 replace hL0 := hL0.ext ho8
 replace hE := hE.step ho8 (.inl (Nat.le_refl _))
 replace hN := hN.ext ho8
 refine sd0 (d_stN hb5 rfl rfl sz26 rfl rfl ?_)
 intro w11 hs13 ho12 hb5'
 clear hb5; have hb5 := hb5'; clear hb5'
 have hz14 := ho12.size
 replace hL0 := hL0.out ho12 (by first | omega | (simp only [blk_some, hi1_some] at *; omega))
 replace hE := hE.step ho12 (by first | omega | (simp only [blk_some, hi1_some] at *; omega))
 replace hN := hN.out ho12 (by first | omega | (simp only [blk_some, hi1_some] at *; omega))
 refine rg_end ?_
 refine n_then ?_
 refine wp_seq ?_
 refine rgD 8 (fun w_ => Ext w11 w_) (fun i => Nat.beq i 2 || Nat.beq i 3) mixed (by kernel_rfl) ?_
 intro w15 ho16 hs17
 refine ⟨ho16, ?_⟩
 have hx18 := ho16
 refine tn rfl (fun _ hG => y_lbN (hb5.ext hG) agg26 rfl) ?_
 refine tn rfl (fun _ hG => y_lbN (hb5.ext hG) agg26 rfl) ?_
 refine tc rfl cl27 (ref11_Tree_ok N A _ _ _ (hN.ext hx18)) rfl ?_
 rintro v23 w19 ⟨at1, ct1, tree, rfl, hTr, htl, ho20⟩
 have hx24 := hx18.step ho20 (.inl (Nat.le_refl _))
 have hz25 := ho20.size
 refine ⟨hx24, ?_⟩
 refine tc rfl cl26 (ref11_Fundamental_ok N A _ _ tree _ _ _ _ _ (hN.ext hx24) hTr (by omega)) rfl ?_
 rintro v30 w26 ⟨ac, cc, l, e, rfl, hC, hall, hll, ho27⟩
 have hx31 := hx24.step ho27 (.inl (Nat.le_refl _))
 have hz32 := ho27.size
 replace hTr := hTr.ext ho27
 refine ⟨hx31, ?_⟩
 refine tn rfl (fun _ hG => mvT rfl) ?_
 refine tn rfl (fun _ hG => y_ext rfl rfl) ?_
 refine tn rfl (fun _ hG => y_ext rfl rfl) ?_
 refine tn rfl (fun _ hG => asS rfl) ?_
 refine t_end ?_
 have hz33 := hx31.size
 replace hL0 := hL0.ext hx31
 replace hE := hE.step hx31 (.inl (Nat.le_refl _))
 replace hN := hN.ext hx31
 replace hb5 := hb5.ext hx31
 refine st (asI rfl) ?_
 refine rg_end ?_
 refine n_then ?_
 refine wp_seq ?_
 refine wp_seq ?_
 refine rg ?_
 refine st (mvS rfl) ?_
 refine st (y_len Try.underlying53 rfl) ?_
 refine st (y_eql rfl rfl) ?_
 refine rg_end ?_
 refine n_then ?_
 refine cnd rfl (fun hc0 => ?_) (fun hc0 => ?_)
 ·
  try simp only [nm] at hc0
  refine wp_seq ?_
  refine rg ?_
  refine sc cl16 (law18_awake_ok _) rfl ?_
  rintro v38 w34 ⟨rfl, ho35⟩
  have hz39 := ho35.size
  replace hL0 := hL0.ext ho35
  replace hE := hE.step ho35 (.inl (Nat.le_refl _))
  replace hN := hN.ext ho35
  replace hb5 := hb5.ext ho35
  replace hTr := hTr.ext ho35
  replace hC := hC.ext ho35
  refine st (asB rfl) ?_
  refine rg_end ?_
  refine n_then ?_
  refine wp_ret ?_
  refine r_then (ret1 (v := (.bool _)) Try.results7 rfl ?_)
  exact ⟨rfl, hE⟩
 ·
  try simp only [nm] at hc0
  refine wp_skip ?_
  refine n_then ?_
  refine wp_seq ?_
  refine rg ?_
  refine st (mvS rfl) ?_
  refine st (mvI rfl) ?_
  refine st (mvS rfl) ?_
  refine st (y_len Try.underlying53 rfl) ?_
  refine sc cl20 (keep_Pick_ok _ _ _ (by omega) (by omega)) rfl ?_
  rintro v44 w40 ⟨rfl, ho41⟩
  have hpk := pick_rng pk ((l.length : Nat) : Int) (by omega)
  obtain ⟨j, hj⟩ : ∃ j : Nat, pick pk ((l.length : Nat) : Int) = (j : Int) := Int.eq_ofNat_of_zero_le hpk.1
  rw [hj] at hpk ⊢
  have hz45 := ho41.size
  replace hL0 := hL0.ext ho41
  replace hE := hE.step ho41 (.inl (Nat.le_refl _))
  replace hN := hN.ext ho41
  replace hb5 := hb5.ext ho41
  replace hTr := hTr.ext ho41
  replace hC := hC.ext ho41
  have hmj := el_mem (l := l) (i := (j : Int)) (by omega) (by omega)
  have hc12 := hC.row _ hmj
  obtain ⟨hcy, hcap⟩ := hall _ hmj
  obtain ⟨arcs, harcs⟩ : ∃ z, z = (el l (j : Int)).arcs := ⟨_, rfl⟩
  obtain ⟨signs, hsigns⟩ : ∃ z, z = (el l (j : Int)).signs := ⟨_, rfl⟩
  rw [← harcs, ← hsigns] at hcy
  rw [← harcs] at hcap
  have hA := hc12.1
  have hG := hc12.2
  rw [← harcs] at hA
  rw [← hsigns] at hG
  have hcl := cy_len hcy
  have hsl_ := hcy.len
  refine st (y_ix hC.tb sl53 rfl (rfl) rfl (by omega) (by omega)) ?_
  refine st (y_lw hC.tb agg58 rfl (by omega) (by omega)) ?_
  rw [show encCy (el l (j : Int)) = [.slice (el l (j : Int)).a arcs.length (el l (j : Int)).c, .slice (el l (j : Int)).b signs.length (el l (j : Int)).d] from by rw [harcs, hsigns]; rfl]
  refine sd (d_allocA zer58 ?_)
  intro b8 w46 hbb8 hs48 ho47 hb8
  have hz49 := ho47.size
  replace hL0 := hL0.ext ho47
  replace hE := hE.step ho47 (.inl (Nat.le_refl _))
  replace hN := hN.ext ho47
  replace hb5 := hb5.ext ho47
  replace hTr := hTr.ext ho47
  replace hC := hC.ext ho47
  replace hA := hA.ext ho47
  replace hG := hG.ext ho47
  refine sd0 (d_stN hb8 rfl rfl sz58 rfl rfl ?_)
  intro w50 hs52 ho51 hb8'
  clear hb8; have hb8 := hb8'; clear hb8'
  have hz53 := ho51.size
  replace hL0 := hL0.out ho51 (by first | omega | (simp only [blk_some, hi1_some] at *; omega))
  replace hE := hE.step ho51 (by first | omega | (simp only [blk_some, hi1_some] at *; omega))
  replace hN := hN.out ho51 (by first | omega | (simp only [blk_some, hi1_some] at *; omega))
  replace hb5 := hb5.out ho51 (by first | omega | (simp only [blk_some, hi1_some] at *; omega))
  replace hTr := hTr.out ho51 (by first | omega | (simp only [blk_some, hi1_some] at *; omega))
  replace hC := hC.out ho51 (by first | omega | (simp only [blk_some, hi1_some] at *; omega))
  replace hA := hA.out ho51 (by first | omega | (simp only [blk_some, hi1_some] at *; omega))
  replace hG := hG.out ho51 (by first | omega | (simp only [blk_some, hi1_some] at *; omega))
  refine rg_end ?_
  refine n_then ?_
  refine wp_seq ?_
  refine wp_seq ?_
  refine rg ?_
  refine st (y_lbN hb5 agg26 rfl) ?_
  refine st (y_lbN hb8 agg58 rfl) ?_
  refine sc cl28 (ref13_Windings_ok N A _ _ arcs signs _ _ _ _ _ _ _ _ _ hN hA hcap hG (by omega)) rfl ?_
  rintro v58 w54 ⟨wl, wh, wok, rfl, q1, q2, ho55⟩
  have hz59 := ho55.size
  replace hL0 := hL0.ext ho55
  replace hE := hE.step ho55 (.inl (Nat.le_refl _))
  replace hN := hN.ext ho55
  replace hb5 := hb5.ext ho55
  replace hTr := hTr.ext ho55
  replace hC := hC.ext ho55
  replace hA := hA.ext ho55
  replace hG := hG.ext ho55
  replace hb8 := hb8.ext ho55
  refine st (mvT rfl) ?_
  refine st (y_ext rfl rfl) ?_
  refine st (y_ext rfl rfl) ?_
  refine st (y_ext rfl rfl) ?_
  refine st (asI rfl) ?_
  refine st (asI rfl) ?_
  refine st (asB rfl) ?_
  refine rg_end ?_
  refine n_then ?_
  refine wp_seq ?_
  refine rg ?_
  refine st (mvB rfl) ?_
  refine rg_end ?_
  refine n_then ?_
  refine cnd rfl (fun hc1 => ?_) (fun hc1 => ?_)
  ·
   try simp only [nm] at hc1
   refine wp_seq ?_
   refine rg ?_
   refine sc cl16 (law18_awake_ok _) rfl ?_
   rintro v64 w60 ⟨rfl, ho61⟩
   have hz65 := ho61.size
   replace hL0 := hL0.ext ho61
   replace hE := hE.step ho61 (.inl (Nat.le_refl _))
   replace hN := hN.ext ho61
   replace hb5 := hb5.ext ho61
   replace hTr := hTr.ext ho61
   replace hC := hC.ext ho61
   replace hA := hA.ext ho61
   replace hG := hG.ext ho61
   replace hb8 := hb8.ext ho61
   refine st (asB rfl) ?_
   refine rg_end ?_
   refine n_then ?_
   refine wp_ret ?_
   refine r_then (ret1 (v := (.bool _)) Try.results7 rfl ?_)
   exact ⟨rfl, hE⟩
  ·
   try simp only [nm] at hc1
   have hwf : wok = false := by assumption
   have hno : ∀ z : Int, bsC N arcs signs arcs.length - bwC N arcs signs arcs.length ≤ z * N.p → z * N.p ≤ bsC N arcs signs arcs.length + fwC N arcs signs arcs.length → False := fun z z1 z2 => by
     have := (q2 hcy z z1 z2).1
     rw [hwf] at this; cases this
   refine wp_skip ?_
   refine n_then ?_
   refine wp_seq ?_
   refine rg ?_
   refine st (asS rfl) ?_
   refine rg_end ?_
   refine n_then ?_
   refine wp_seq ?_
   refine wp_seq ?_
   refine rg ?_
   refine st (y_fld fld26_2 rfl) ?_
   refine st (y_lb hb5 na24 rfl rfl) ?_
   refine st (y_len Try.underlying24 rfl) ?_
   refine st (mvI rfl) ?_
   refine rg_end ?_
   refine n_then ?_
   refine wp_block ?_
   obtain ⟨z2, hz2⟩ : ∃ z, z = w54.heap.size := ⟨_, rfl⟩
   refine lp (γ := Nat × List Int × Option Addr × Nat) [12, 13, 14, 52, 53, 54, 55, 56, 57, 58, 59, 60, 61, 62, 63, 64, 65, 66, 67, 68, 69, 70, 71, 72, 73] (fun ⟨k, s, as_, cs⟩ => [(52, .int .i64 (k : Int)), (12, .slice as_ s.length cs)]) (fun ⟨k, s, as_, cs⟩ w_ => Ext w54 w_ ∧ k ≤ N.acts.length ∧ Mem arcs (k : Int) s ∧ Ow 3 encI 1 z2 w_.heap.size w_ as_ cs s) (fun ⟨k, s, as_, cs⟩ => N.acts.length - k) (0, [], none, 0) ⟨rfl, rfl, trivial⟩ ⟨Out.refl _ _ _, by simp, Mem.zero, Ow.nil (fun _ => rfl)⟩ ?_
   rintro ⟨k, s, as_, cs⟩ hav_ w66 ⟨ho67, hk, hm, hset⟩
   have hlp0 := ho67
   have hz68 := ho67.size
   replace hL0 := hL0.ext ho67
   replace hE := hE.step ho67 (.inl (Nat.le_refl _))
   replace hN := hN.ext ho67
   replace hb5 := hb5.ext ho67
   replace hTr := hTr.ext ho67
   replace hC := hC.ext ho67
   replace hA := hA.ext ho67
   replace hG := hG.ext ho67
   replace hb8 := hb8.ext ho67
   refine wp_seq ?_
   refine rg ?_
   refine st (y_lss rfl rfl) ?_
   refine rg_end ?_
   refine n_then ?_
   refine wp_seq ?_
   refine cnd rfl (fun hc2 => ?_) (fun hc2 => ?_)
   ·
    try simp only [nm] at hc2
    have hlen := asc_len s (-1) hm.asc (by omega)
    refine wp_skip ?_
    refine n_then ?_
    refine wp_seq ?_
    refine wp_block ?_
    refine wp_seq ?_
    refine rg ?_
    refine st (mvI rfl) ?_
    refine st (asI rfl) ?_
    refine rg_end ?_
    refine n_then ?_
    refine wp_seq ?_
    refine rg ?_
    refine st (y_fld fld58_0 rfl) ?_
    refine st (y_lb hb8 na22 rfl rfl) ?_
    refine st (y_len Try.underlying22 rfl) ?_
    refine st (mvI rfl) ?_
    refine rg_end ?_
    refine n_then ?_
    refine wp_block ?_
    obtain ⟨z3, hz3⟩ : ∃ z, z = w66.heap.size := ⟨_, rfl⟩
    refine lp (γ := Nat × List Int × Option Addr × Nat) [12, 14, 58, 59, 60, 61, 62, 63, 64, 65, 66, 67, 68, 69, 70, 71, 72] (fun ⟨q, s1, as_, cs⟩ => [(58, .int .i64 (q : Int)), (12, .slice as_ s1.length cs)]) (fun ⟨q, s1, as_, cs⟩ w_ => Out z2 z3 w66 w_ ∧ q ≤ arcs.length ∧ Hit arcs s s1 (k : Int) q ∧ Ow 3 encI 1 z2 w_.heap.size w_ as_ cs s1) (fun ⟨q, s1, as_, cs⟩ => arcs.length - q) (0, s, as_, cs) ⟨rfl, rfl, trivial⟩ ⟨Out.refl _ _ _, by omega, .inl ⟨rfl, fun x hx => by omega⟩, hset⟩ ?_
    rintro ⟨q, s1, as_, cs⟩ hav_ w69 ⟨ho70, hq, hhit, hset⟩
    have hlp1 := ho70
    have hz71 := ho70.size
    replace hL0 := hL0.out ho70 (by first | omega | (simp only [blk_some, hi1_some] at *; omega))
    replace hE := hE.step ho70 (by first | omega | (simp only [blk_some, hi1_some] at *; omega))
    replace hN := hN.out ho70 (by first | omega | (simp only [blk_some, hi1_some] at *; omega))
    replace hb5 := hb5.out ho70 (by first | omega | (simp only [blk_some, hi1_some] at *; omega))
    replace hTr := hTr.out ho70 (by first | omega | (simp only [blk_some, hi1_some] at *; omega))
    replace hC := hC.out ho70 (by first | omega | (simp only [blk_some, hi1_some] at *; omega))
    replace hA := hA.out ho70 (by first | omega | (simp only [blk_some, hi1_some] at *; omega))
    replace hG := hG.out ho70 (by first | omega | (simp only [blk_some, hi1_some] at *; omega))
    replace hb8 := hb8.out ho70 (by first | omega | (simp only [blk_some, hi1_some] at *; omega))
    replace hlp0 := hlp0.step ho70 (by first | omega | (simp only [blk_some, hi1_some] at *; omega))
    refine wp_seq ?_
    refine rg ?_
    refine st (y_lss rfl rfl) ?_
    refine rg_end ?_
    refine n_then ?_
    refine wp_seq ?_
    refine cnd rfl (fun hc3 => ?_) (fun hc3 => ?_)
    ·
     try simp only [nm] at hc3
     have hlh := hhit.len
     refine wp_skip ?_
     refine n_then ?_
     refine wp_seq ?_
     refine wp_block ?_
     refine wp_seq ?_
     refine rg ?_
     refine st (mvI rfl) ?_
     refine st (asI rfl) ?_
     refine rg_end ?_
     refine n_then ?_
     refine wp_seq ?_
     refine rg ?_
     refine st (y_fld fld58_0 rfl) ?_
     refine st (y_lb hb8 na22 rfl rfl) ?_
     refine st (mvI rfl) ?_
     refine st (y_ix hA sl22 rfl (rfl) rfl (by omega) (by omega)) ?_
     refine st (y_le hA na3 rfl (by omega) (by omega) rfl) ?_
     refine st (mvI rfl) ?_
     refine st (y_eql rfl rfl) ?_
     refine rg_end ?_
     refine n_then ?_
     refine cnd rfl (fun hc4 => ?_) (fun hc4 => ?_)
     ·
      try simp only [nm] at hc4
      have hs1 : s1 = s := by
        rcases hhit with ⟨e, _⟩ | ⟨_, x, h1, h2⟩
        · exact e
        · exact absurd (h2.trans hc4.symm) (hcy.a.dist x q h1 (by omega))
      have hhit1 : Hit arcs s (s1 ++ [(k : Int)]) (k : Int) (q + 1) := .inr ⟨by rw [hs1], q, by omega, hc4⟩
      refine rg ?_
      refine st (mvS rfl) ?_
      refine st (mvI rfl) ?_
      refine sd (d_bs (bsl22_1 _ _) rfl ?_)
      intro bl75 w72 hbbl75 hs74 ho73 hbl75
      have hz76 := ho73.size
      replace hL0 := hL0.ext ho73
      replace hE := hE.step ho73 (.inl (Nat.le_refl _))
      replace hN := hN.ext ho73
      replace hb5 := hb5.ext ho73
      replace hTr := hTr.ext ho73
      replace hC := hC.ext ho73
      replace hA := hA.ext ho73
      replace hG := hG.ext ho73
      replace hb8 := hb8.ext ho73
      replace hlp0 := hlp0.step ho73 (.inl (Nat.le_refl _))
      replace hset := hset.ext ho73
      replace hlp1 := hlp1.step ho73 (.inl (Nat.le_refl _))
      have hrhset := hset.rng
      refine sd (d_app (xs := [(k : Int)]) hset sl22 infoz3 (by decide) rfl rfl rfl rfl (hbl75) (fun _ => rfl) (by simp; unfold maxLen; omega) (by simp; omega) (by omega) (by omega) ?_)
      intro as2 cs2 w77 ho78 hset'
      have hs79 := ho78.size
      clear hset; have hset := hset'; clear hset'
      have hz82 := ho78.size
      replace hL0 := hL0.out ho78 (by first | omega | (simp only [blk_some, hi1_some] at *; omega))
      replace hE := hE.step ho78 (by first | omega | (simp only [blk_some, hi1_some] at *; omega))
      replace hN := hN.out ho78 (by first | omega | (simp only [blk_some, hi1_some] at *; omega))
      replace hb5 := hb5.out ho78 (by first | omega | (simp only [blk_some, hi1_some] at *; omega))
      replace hTr := hTr.out ho78 (by first | omega | (simp only [blk_some, hi1_some] at *; omega))
      replace hC := hC.out ho78 (by first | omega | (simp only [blk_some, hi1_some] at *; omega))
      replace hA := hA.out ho78 (by first | omega | (simp only [blk_some, hi1_some] at *; omega))
      replace hG := hG.out ho78 (by first | omega | (simp only [blk_some, hi1_some] at *; omega))
      replace hb8 := hb8.out ho78 (by first | omega | (simp only [blk_some, hi1_some] at *; omega))
      replace hlp0 := hlp0.step ho78 (by first | omega | (simp only [blk_some, hi1_some] at *; omega))
      replace hlp1 := hlp1.step ho78 (by first | omega | (simp only [blk_some, hi1_some] at *; omega))
      refine st (asS rfl) ?_
      refine rg_end ?_
      refine n_blk ?_
      refine n_then ?_
      refine rg ?_
      refine st (y_add rfl rfl (by omega)) ?_
      refine st (mvI rfl) ?_
      refine rg_end ?_
      exact n_then ⟨(q + 1, _, _, _), _, rfl, same_lk rfl (same_h0), ⟨rfl, rfl, trivial⟩, ⟨hlp1, by omega, hhit1, hset.wide (by omega)⟩, by first | omega | (dsimp only; omega)⟩
     ·
      try simp only [nm] at hc4
      have hhit1 : Hit arcs s s1 (k : Int) (q + 1) := by
        rcases hhit with ⟨e, h⟩ | ⟨e, x, h1, h2⟩
        · refine .inl ⟨e, fun x hx => ?_⟩
          by_cases c : x = q
          · subst c; exact hc4
          · exact h x (by omega)
        · exact .inr ⟨e, x, by omega, h2⟩
      refine wp_skip ?_
      refine n_blk ?_
      refine n_then ?_
      refine rg ?_
      refine st (y_add rfl rfl (by omega)) ?_
      refine st (mvI rfl) ?_
      refine rg_end ?_
      exact n_then ⟨(q + 1, _, _, _), _, rfl, same_lk rfl (same_h0), ⟨rfl, rfl, trivial⟩, ⟨hlp1, by omega, hhit1, hset.wide (by omega)⟩, by first | omega | (dsimp only; omega)⟩
    ·
     try simp only [nm] at hc3
     have hqe : q = arcs.length := by omega
     have hm1 := hhit.done hqe hm (by omega)
     have hlh := hhit.len
     refine wp_exit ?_
     refine e_then (e_then (e_blk (?_)))
     refine n_blk ?_
     refine n_then ?_
     refine rg ?_
     refine st (y_add rfl rfl (by omega)) ?_
     refine st (mvI rfl) ?_
     refine rg_end ?_
     exact n_then ⟨(k + 1, _, _, _), _, rfl, same_lk rfl (same_hav rfl (same_lk rfl (same_h0))), ⟨rfl, rfl, trivial⟩, ⟨hlp0, by omega, hm1, hset.wide (by omega)⟩, by first | omega | (dsimp only; omega)⟩
   ·
    try simp only [nm] at hc2
    have hkn : k = N.acts.length := by omega
    subst hkn
    have hlen := asc_len s (-1) hm.asc (by omega)
    obtain ⟨f1, f2, f3⟩ := cyc_find hsm hcy (fun i => by
      rw [hm.mem]
      constructor
      · exact fun h => h.2
      · intro h
        obtain ⟨x, hx, he⟩ := List.getElem_of_mem h
        have := hcy.a.rng x hx
        have e2 : el arcs (x : Int) = i := by simp [el, hx, he]
        rw [e2] at this
        exact ⟨⟨this.1, this.2.1⟩, h⟩) (asc_pw s (-1) hm.asc) (cyc_inf hcy hm hno)
    refine wp_exit ?_
    refine e_then (e_then (e_blk (?_)))
    refine n_then ?_
    refine wp_seq ?_
    refine rg ?_
    refine st (y_lbN hb5 agg26 rfl) ?_
    refine st (mvS rfl) ?_
    refine sc cl13 (contradiction_Subset_ok N A _ _ s _ _ _ _ _ hN (Ow.sl hset) (by omega)) rfl ?_
    rintro v87 w83 ⟨A2, rfl, hM, ho84⟩
    obtain ⟨u1, u2⟩ := subE0 (netOk_iff.2 hok) hm.asc
    rw [u2] at hM
    rw [u1, u2]
    have hz88 := ho84.size
    replace hL0 := hL0.ext ho84
    replace hE := hE.step ho84 (.inl (Nat.le_refl _))
    replace hN := hN.ext ho84
    replace hb5 := hb5.ext ho84
    replace hTr := hTr.ext ho84
    replace hC := hC.ext ho84
    replace hA := hA.ext ho84
    replace hG := hG.ext ho84
    replace hb8 := hb8.ext ho84
    replace hset := hset.ext ho84
    refine st (mvT rfl) ?_
    refine st (y_ext rfl rfl) ?_
    refine st (y_ext rfl rfl) ?_
    refine sd (d_allocA zer26 ?_)
    intro b15 w89 hbb15 hs91 ho90 hb15
    have hz92 := ho90.size
    replace hL0 := hL0.ext ho90
    replace hE := hE.step ho90 (.inl (Nat.le_refl _))
    replace hN := hN.ext ho90
    replace hb5 := hb5.ext ho90
    replace hTr := hTr.ext ho90
    replace hC := hC.ext ho90
    replace hA := hA.ext ho90
    replace hG := hG.ext ho90
    replace hb8 := hb8.ext ho90
    replace hset := hset.ext ho90
    replace hM := hM.ext ho90
    refine sd0 (d_stN hb15 rfl rfl sz26 rfl rfl ?_)
    intro w93 hs95 ho94 hb15'
    clear hb15; have hb15 := hb15'; clear hb15'
    have hz96 := ho94.size
    replace hL0 := hL0.out ho94 (by first | omega | (simp only [blk_some, hi1_some] at *; omega))
    replace hE := hE.step ho94 (by first | omega | (simp only [blk_some, hi1_some] at *; omega))
    replace hN := hN.out ho94 (by first | omega | (simp only [blk_some, hi1_some] at *; omega))
    replace hb5 := hb5.out ho94 (by first | omega | (simp only [blk_some, hi1_some] at *; omega))
    replace hTr := hTr.out ho94 (by first | omega | (simp only [blk_some, hi1_some] at *; omega))
    replace hC := hC.out ho94 (by first | omega | (simp only [blk_some, hi1_some] at *; omega))
    replace hA := hA.out ho94 (by first | omega | (simp only [blk_some, hi1_some] at *; omega))
    replace hG := hG.out ho94 (by first | omega | (simp only [blk_some, hi1_some] at *; omega))
    replace hb8 := hb8.out ho94 (by first | omega | (simp only [blk_some, hi1_some] at *; omega))
    have hrnhset := hset.rng
    replace hset := hset.out ho94 (by first | omega | (simp only [blk_some, hi1_some] at *; omega))
    replace hM := hM.out ho94 (by first | omega | (simp only [blk_some, hi1_some] at *; omega))
    refine st (asI rfl) ?_
    refine rg_end ?_
    refine n_then ?_
    refine wp_seq ?_
    refine rg ?_
    refine st (y_lbN hb15 agg26 rfl) ?_
    refine sc cl21 (con_Find_ok (subN N s) A2 _ _ 131072 _ hM) rfl ?_
    rintro v101 w97 ⟨aq, cq, aw, cw, rows, rfl, hcq, hQ, hW, hrw, ho98⟩
    have hz102 := ho98.size
    replace hL0 := hL0.ext ho98
    replace hE := hE.step ho98 (.inl (Nat.le_refl _))
    replace hN := hN.ext ho98
    replace hb5 := hb5.ext ho98
    replace hTr := hTr.ext ho98
    replace hC := hC.ext ho98
    replace hA := hA.ext ho98
    replace hG := hG.ext ho98
    replace hb8 := hb8.ext ho98
    replace hset := hset.ext ho98
    replace hM := hM.ext ho98
    replace hb15 := hb15.ext ho98
    refine st (mvT rfl) ?_
    refine st (y_ext rfl rfl) ?_
    refine st (y_ext rfl rfl) ?_
    refine st (y_ext rfl rfl) ?_
    refine sd (d_allocA zer46 ?_)
    intro b17 w103 hbb17 hs105 ho104 hb17
    have hz106 := ho104.size
    replace hL0 := hL0.ext ho104
    replace hE := hE.step ho104 (.inl (Nat.le_refl _))
    replace hN := hN.ext ho104
    replace hb5 := hb5.ext ho104
    replace hTr := hTr.ext ho104
    replace hC := hC.ext ho104
    replace hA := hA.ext ho104
    replace hG := hG.ext ho104
    replace hb8 := hb8.ext ho104
    replace hset := hset.ext ho104
    replace hM := hM.ext ho104
    replace hb15 := hb15.ext ho104
    replace hQ := hQ.ext ho104
    replace hW := hW.ext ho104
    refine sd0 (d_stN hb17 rfl rfl sz46 rfl rfl ?_)
    intro w107 hs109 ho108 hb17'
    clear hb17; have hb17 := hb17'; clear hb17'
    have hz110 := ho108.size
    replace hL0 := hL0.out ho108 (by first | omega | (simp only [blk_some, hi1_some] at *; omega))
    replace hE := hE.step ho108 (by first | omega | (simp only [blk_some, hi1_some] at *; omega))
    replace hN := hN.out ho108 (by first | omega | (simp only [blk_some, hi1_some] at *; omega))
    replace hb5 := hb5.out ho108 (by first | omega | (simp only [blk_some, hi1_some] at *; omega))
    replace hTr := hTr.out ho108 (by first | omega | (simp only [blk_some, hi1_some] at *; omega))
    replace hC := hC.out ho108 (by first | omega | (simp only [blk_some, hi1_some] at *; omega))
    replace hA := hA.out ho108 (by first | omega | (simp only [blk_some, hi1_some] at *; omega))
    replace hG := hG.out ho108 (by first | omega | (simp only [blk_some, hi1_some] at *; omega))
    replace hb8 := hb8.out ho108 (by first | omega | (simp only [blk_some, hi1_some] at *; omega))
    replace hset := hset.out ho108 (by first | omega | (simp only [blk_some, hi1_some] at *; omega))
    replace hM := hM.out ho108 (by first | omega | (simp only [blk_some, hi1_some] at *; omega))
    replace hb15 := hb15.out ho108 (by first | omega | (simp only [blk_some, hi1_some] at *; omega))
    replace hQ := hQ.out ho108 (by first | omega | (simp only [blk_some, hi1_some] at *; omega))
    replace hW := hW.out ho108 (by first | omega | (simp only [blk_some, hi1_some] at *; omega))
    refine st (asI rfl) ?_
    refine st (asI rfl) ?_
    refine rg_end ?_
    refine n_then ?_
    refine wp_seq ?_
    refine rg ?_
    refine sc cl16 (law18_awake_ok _) rfl ?_
    rintro v115 w111 ⟨rfl, ho112⟩
    have hz116 := ho112.size
    replace hL0 := hL0.ext ho112
    replace hE := hE.step ho112 (.inl (Nat.le_refl _))
    replace hN := hN.ext ho112
    replace hb5 := hb5.ext ho112
    replace hTr := hTr.ext ho112
    replace hC := hC.ext ho112
    replace hA := hA.ext ho112
    replace hG := hG.ext ho112
    replace hb8 := hb8.ext ho112
    replace hset := hset.ext ho112
    replace hM := hM.ext ho112
    replace hb15 := hb15.ext ho112
    replace hQ := hQ.ext ho112
    replace hW := hW.ext ho112
    replace hb17 := hb17.ext ho112
    refine st (mvB rfl) ?_
    refine stg rfl rfl rfl (mvI rfl) ?_
    refine stg rfl rfl rfl (y_eql rfl rfl) ?_
    refine st (y_pickT rfl rfl (v := .bool _) rfl) ?_
    refine st (mvB rfl) ?_
    refine stg rfl rfl (decide_eq_true rfl) (mvI rfl) ?_
    refine stg rfl rfl (decide_eq_true rfl) (y_eql rfl rfl) ?_
    refine st (y_pickT rfl (decide_eq_true rfl) (v := .bool _) rfl) ?_
    refine st (mvB rfl) ?_
    refine stg rfl rfl (decide_eq_true f2) (y_fld fld46_0 rfl) ?_
    refine stg rfl rfl (decide_eq_true f2) (y_lb hb17 na22 rfl rfl) ?_
    refine stg rfl rfl (decide_eq_true f2) (y_len Try.underlying22 rfl) ?_
    refine stg rfl rfl (decide_eq_true f2) (mvS rfl) ?_
    refine stg rfl rfl (decide_eq_true f2) (y_len Try.underlying22 rfl) ?_
    refine stg rfl rfl (decide_eq_true f2) (y_eql rfl rfl) ?_
    refine st (y_pickT rfl (decide_eq_true f2) (v := .bool _) rfl) ?_
    refine st (asB rfl) ?_
    refine rg_end ?_
    refine n_then ?_
    refine wp_ret ?_
    refine ret1 (v := (.bool _)) Try.results7 rfl ?_
    exact ⟨vb (by simp [f3]), hE⟩
end Go.Proofs.Ytclligkngjhihaa
