/-
  Walks of the functions, printed by a program out of the code and the loops' relations.
-/
import Derived.Test.YtdgkaahghlbocaaWkD
import Derived.Test.YtdgkaahghlbocaaProg
import Derived.KernelRfl
import Derived.Test.YtdgkaahghlbocaaC7
namespace Go.Proofs.Ytdgkaahghlbocaa
open Go.Wk Go.RowKit
set_option linter.unusedVariables false
set_option linter.unusedSimpArgs false
theorem cl18 : Callable Try.prog 18 := ⟨Try.call18⟩

theorem all_step {P : Nat → Prop} {k : Nat} {b c : Bool} (h : b = true ↔ ∀ j : Nat, j < k → P j) (hc : c = true ↔ (b = true ∧ P k)) : c = true ↔ ∀ j : Nat, j < k + 1 → P j := by
  rw [hc, h]
  constructor
  · rintro ⟨h1, h2⟩ j hj
    by_cases e : j = k
    · subst e; exact h2
    · exact h1 j (by omega)
  · intro h; exact ⟨fun j hj => h j (by omega), h k (by omega)⟩
/-- The sum over a way. -/
def wsum (vals : List Int) : List (Int × Int) → Int
  | [] => 0
  | p :: r => p.2 * el vals p.1 + wsum vals r
theorem wsum_snoc (vals : List Int) : ∀ (l : List (Int × Int)) (p : Int × Int), wsum vals (l ++ [p]) = wsum vals l + p.2 * el vals p.1
  | [], p => by simp [wsum]
  | q :: r, p => by rw [List.cons_append, wsum, wsum, wsum_snoc vals r p]; omega
theorem totC_wsum (vals : List Int) (l : List (Int × Int)) : ∀ k : Nat, k ≤ l.length → totC (l.map Prod.fst) (l.map Prod.snd) vals k = wsum vals (l.take k)
  | 0, _ => by simp [totC, wsum]
  | k + 1, hk => by
    rw [totC, totC_wsum vals l k (by omega), tkS (l := l) (k := k) (by omega), wsum_snoc]
    have e1 : el (l.map Prod.snd) (k : Int) = (el l (k : Int)).2 := by simp [el, show k < l.length by omega]
    have e2 : el (l.map Prod.fst) (k : Int) = (el l (k : Int)).1 := by simp [el, show k < l.length by omega]
    rw [e1, e2]
theorem wa_mod {N : Net} {S vals p : List Int} (hd : ∀ a ∈ S, (el p (el N.acts a).tt - el p (el N.acts a).fr - el vals a) % N.p = 0) : ∀ {l : List (Int × Int)} {x y : Int}, Wa N S x l y → (wsum vals l - (el p y - el p x)) % N.p = 0
  | [], x, y, h => by cases h; simp [wsum]
  | q :: r, x, y, h => by
    obtain ⟨h1, h2, h3, h4⟩ := h
    have ih := wa_mod hd h4
    have h5 := hd q.1 h1
    have key : (q.2 * el vals q.1 - (el p (cyEn N q.1 q.2) - el p x)) % N.p = 0 := by
      rw [← h3]
      rcases h2 with s | s <;> rw [s]
      · have e1 : cyEn N q.1 1 = (el N.acts q.1).tt := by unfold cyEn; rw [if_neg (by decide)]
        have e2 : cySt N q.1 1 = (el N.acts q.1).fr := by unfold cySt; rw [if_neg (by decide)]
        rw [e1, e2]
        have := Int.dvd_neg.2 (Int.dvd_of_emod_eq_zero h5)
        refine Int.emod_eq_zero_of_dvd ?_
        rwa [show -(el p (el N.acts q.1).tt - el p (el N.acts q.1).fr - el vals q.1) = 1 * el vals q.1 - (el p (el N.acts q.1).tt - el p (el N.acts q.1).fr) by omega] at this
      · have e1 : cyEn N q.1 (-1) = (el N.acts q.1).fr := by unfold cyEn; rw [if_pos (by decide)]
        have e2 : cySt N q.1 (-1) = (el N.acts q.1).tt := by unfold cySt; rw [if_pos (by decide)]
        rw [e1, e2]
        rwa [show -1 * el vals q.1 - (el p (el N.acts q.1).fr - el p (el N.acts q.1).tt) = el p (el N.acts q.1).tt - el p (el N.acts q.1).fr - el vals q.1 by omega]
    have := Int.dvd_add (Int.dvd_of_emod_eq_zero key) (Int.dvd_of_emod_eq_zero ih)
    refine Int.emod_eq_zero_of_dvd ?_
    rwa [show q.2 * el vals q.1 - (el p (cyEn N q.1 q.2) - el p x) + (wsum vals r - (el p y - el p (cyEn N q.1 q.2))) = wsum vals (q :: r) - (el p y - el p x) by rw [wsum]; omega] at this
theorem cyw_mod {N : Net} {tree vals p : List Int} (hd : ∀ a ∈ tree, (el p (el N.acts a).tt - el p (el N.acts a).fr - el vals a) % N.p = 0) {i : Int} {arcs signs : List Int} (h : CyW N tree i (arcs, signs)) : totC arcs signs vals arcs.length % N.p = 0 ↔ (el p (el N.acts i).tt - el p (el N.acts i).fr - el vals i) % N.p = 0 := by
  obtain ⟨w, h1, h2, h3⟩ := h
  have h4 := wa_mod hd h1
  obtain ⟨rfl, rfl⟩ := Prod.mk.inj h3
  have e := totC_wsum vals ((i, 1) :: w) ((i, 1) :: w).length (Nat.le_refl _)
  rw [List.take_length, List.map_cons, List.map_cons, wsum] at e
  have e2 : (i :: w.map Prod.fst).length = ((i, (1 : Int)) :: w).length := by simp
  rw [e2, e]
  dsimp only
  have d4 := Int.dvd_of_emod_eq_zero h4
  constructor
  · intro h
    refine Int.emod_eq_zero_of_dvd ?_
    have := Int.dvd_sub d4 (Int.dvd_of_emod_eq_zero h)
    rwa [show wsum vals w - (el p (el N.acts i).fr - el p (el N.acts i).tt) - (1 * el vals i + wsum vals w) = el p (el N.acts i).tt - el p (el N.acts i).fr - el vals i by omega] at this
  · intro h
    refine Int.emod_eq_zero_of_dvd ?_
    have := Int.dvd_sub d4 (Int.dvd_of_emod_eq_zero h)
    rwa [show wsum vals w - (el p (el N.acts i).fr - el p (el N.acts i).tt) - (el p (el N.acts i).tt - el p (el N.acts i).fr - el vals i) = 1 * el vals i + wsum vals w by omega] at this
theorem closed_iff {N : Net} {tree vals p : List Int} {l : List Cyc} (hd : ∀ a ∈ tree, (el p (el N.acts a).tt - el p (el N.acts a).fr - el vals a) % N.p = 0) (hf : FunR N tree N.acts.length (l.map prC)) :
    (∀ j : Nat, j < l.length → totC (el l (j : Int)).arcs (el l (j : Int)).signs vals (el l (j : Int)).arcs.length % N.p = 0) ↔ ∀ i : Nat, i < N.acts.length → (el p (el N.acts (i : Int)).tt - el p (el N.acts (i : Int)).fr - el vals (i : Int)) % N.p = 0 := by
  obtain ⟨h1, h2⟩ := hf
  rw [List.length_map] at h1 h2
  have hj : ∀ j : Nat, j < l.length → el (l.map prC) (j : Int) = ((el l (j : Int)).arcs, (el l (j : Int)).signs) := fun j hj => by simp [el, hj, prC]
  constructor
  · intro h i hi
    by_cases e : (i : Int) ∈ tree
    · exact hd _ e
    · obtain ⟨j, hj1, hj2⟩ := List.getElem_of_mem (nonT_of (tree := tree) (k := N.acts.length) (x := (i : Int)) (by omega) (by omega) e)
      have hc := h2 j (by omega)
      rw [hj j (by omega), show el (nonT tree N.acts.length) (j : Int) = (i : Int) by simp [el, hj1, hj2]] at hc
      exact (cyw_mod hd hc).1 (h j (by omega))
  · intro h j hjl
    have hc := h2 j hjl
    rw [hj j hjl] at hc
    have hm := nonT_mem (el_mem (l := nonT tree N.acts.length) (i := (j : Int)) (by omega) (by omega))
    have := h (el (nonT tree N.acts.length) (j : Int)).toNat (by omega)
    rw [Int.toNat_of_nonneg hm.1] at this
    exact (cyw_mod hd hc).2 this
theorem list_inR {N : Net} {x : List Int} (hl : x.length = N.acts.length) (h : ∀ q : Nat, q < N.acts.length → -50 ≤ el x (q : Int) ∧ el x (q : Int) ≤ 50) : inR N x = true := inR_iff.2 ⟨hl, fun k hk => by have := h k (by omega); omega⟩

set_option maxHeartbeats 4000000 in
set_option maxRecDepth 100000 in
theorem law12_CyclesClosedValues_ok (a0 : Option Addr) (c0 : Nat) (l0 : List Int) (a1 : Option Addr) (c1 : Nat) (l1 : List Int) (w : World) (hL0 : Ints 0 w.heap.size w a0 l0) (hl0 : (l0.length : Int) ≤ 9223372036854775807) (hL1 : Ints 0 w.heap.size w a1 l1) (hl1 : (l1.length : Int) ≤ 9223372036854775807) : Cal Try.prog 3 [.slice a0 l0.length c0, .slice a1 l1.length c1] w (fun v w' => v = .bool true ∧ Ext w w') := by
  have hE : Out 0 0 w w := Out.refl _ _ w
  refine enter Try.func3 rfl Try.ntmps3 rfl ?_
  refine wp_seq ?_
  refine rg ?_
  refine st (asB rfl) ?_
  refine rg_end ?_
  refine n_then ?_
  refine wp_seq ?_
  refine rg ?_
  refine st (mvS rfl) ?_
  refine sc cl12 (keep_Network_ok _ _ _ _ _ _ hL0 hl0) rfl ?_
  rintro v5 w1 ⟨N, A, rfl, hsm, hev, hac, hdis, ho2⟩
  have hN : NetIn _ _ _ N A := ⟨Ow.sl hev, Ow.sl hac⟩
  clear hev hac
  have hok := hsm.1
  have hev1 := hok.ev
  have hac8 := hsm.2.2.2.2.2.1
  have hp2 := hsm.2.1
  have hp9 := hsm.2.2.1
  have hz6 := ho2.size
  replace hL0 := hL0.ext ho2
  replace hL1 := hL1.ext ho2
  replace hE := hE.step ho2 (.inl (Nat.le_refl _))
  refine sd (d_allocA zer26 ?_)
  intro b5 w7 hbb5 hs9 ho8 hb5
  have hz10 := ho8.size
  replace hL0 := hL0.ext ho8
  replace hL1 := hL1.ext ho8
  replace hE := hE.step ho8 (.inl (Nat.le_refl _))
  replace hN := hN.ext ho8
  refine sd0 (d_stN hb5 rfl rfl sz26 rfl rfl ?_)
  intro w11 hs13 ho12 hb5'
  clear hb5; have hb5 := hb5'; clear hb5'
  have hz14 := ho12.size
  replace hL0 := hL0.out ho12 (by first | omega | (simp only [blk_some, hi1_some] at *; omega))
  replace hL1 := hL1.out ho12 (by first | omega | (simp only [blk_some, hi1_some] at *; omega))
  replace hE := hE.step ho12 (by first | omega | (simp only [blk_some, hi1_some] at *; omega))
  replace hN := hN.out ho12 (by first | omega | (simp only [blk_some, hi1_some] at *; omega))
  refine rg_end ?_
  refine n_then ?_
  refine wp_seq ?_
  refine rg ?_
  refine st (y_lbN hb5 agg26 rfl) ?_
  refine sc cl13 (ref11_TreeX_ok N A _ _ _ hN hok) rfl ?_
  rintro v19 w15 ⟨at1, ct1, rfl, hTr, hfo, htl, htc, ho16⟩
  have hz20 := ho16.size
  replace hL0 := hL0.ext ho16
  replace hL1 := hL1.ext ho16
  replace hE := hE.step ho16 (.inl (Nat.le_refl _))
  replace hN := hN.ext ho16
  replace hb5 := hb5.ext ho16
  refine st (asS rfl) ?_
  refine rg_end ?_
  refine n_then ?_
  refine wp_seq ?_
  refine rg ?_
  refine st (mvS rfl) ?_
  refine st (y_fld fld26_2 rfl) ?_
  refine st (y_lb hb5 na24 rfl rfl) ?_
  refine st (y_len Try.underlying24 rfl) ?_
  refine sc cl14 (law12_list_ok _ _ _ _ _ N.acts.length _ hL1 hl1 (by omega)) rfl ?_
  rintro v25 w21 ⟨al_, cl_, vals, rfl, hV, hvl, hvr, ho22⟩
  have hin := list_inR hvl hvr
  have hz26 := ho22.size
  replace hL0 := hL0.ext ho22
  replace hL1 := hL1.ext ho22
  replace hE := hE.step ho22 (.inl (Nat.le_refl _))
  replace hN := hN.ext ho22
  replace hb5 := hb5.ext ho22
  replace hTr := hTr.ext ho22
  refine st (asS rfl) ?_
  refine rg_end ?_
  refine n_then ?_
  refine wp_seq ?_
  refine rg ?_
  refine st (y_lbN hb5 agg26 rfl) ?_
  refine st (mvS rfl) ?_
  refine sc cl15 (ref11_FundamentalX_ok N A _ _ (trX N) _ _ _ _ _ hN hTr (by omega)) rfl ?_
  rintro v31 w27 ⟨ac, cc, l, e, rfl, hC, hall, hll, q1, q2, ho28⟩
  obtain ⟨rfl, hfr⟩ := q2 hfo
  have hz32 := ho28.size
  replace hL0 := hL0.ext ho28
  replace hL1 := hL1.ext ho28
  replace hE := hE.step ho28 (.inl (Nat.le_refl _))
  replace hN := hN.ext ho28
  replace hb5 := hb5.ext ho28
  replace hTr := hTr.ext ho28
  replace hV := hV.ext ho28
  refine st (mvT rfl) ?_
  refine st (y_ext rfl rfl) ?_
  refine st (y_ext rfl rfl) ?_
  refine st (asS rfl) ?_
  refine st (asI rfl) ?_
  refine rg_end ?_
  refine n_then ?_
  refine wp_seq ?_
  refine rg ?_
  refine st (asB rfl) ?_
  refine rg_end ?_
  refine n_then ?_
  refine wp_seq ?_
  refine wp_seq ?_
  refine rg ?_
  refine st (mvS rfl) ?_
  refine st (y_len Try.underlying30 rfl) ?_
  refine st (mvI rfl) ?_
  refine rg_end ?_
  refine n_then ?_
  refine wp_block ?_
  refine lp (γ := Nat × Bool) [10, 11, 12, 13, 36, 37, 38, 39, 40, 41, 42, 43, 44, 45, 46, 47, 48, 49, 50, 51, 52, 53, 54, 55, 56, 57] (fun ⟨k, b⟩ => [(36, .int .i64 (k : Int)), (10, .bool b)]) (fun ⟨k, b⟩ w_ => Ext w27 w_ ∧ (k : Int) ≤ l.length ∧ (b = true ↔ ∀ j : Nat, j < k → totC (el l (j : Int)).arcs (el l (j : Int)).signs vals (el l (j : Int)).arcs.length % N.p = 0)) (fun ⟨k, b⟩ => l.length - k) (0, true) ⟨rfl, rfl, trivial⟩ ⟨Out.refl _ _ _, by simp, ⟨fun _ j hj => by omega, fun _ => rfl⟩⟩ ?_
  rintro ⟨k, b⟩ hav_ w33 ⟨ho34, hk, hcl⟩
  have hlp0 := ho34
  have hz35 := ho34.size
  replace hL0 := hL0.ext ho34
  replace hL1 := hL1.ext ho34
  replace hE := hE.step ho34 (.inl (Nat.le_refl _))
  replace hN := hN.ext ho34
  replace hb5 := hb5.ext ho34
  replace hTr := hTr.ext ho34
  replace hV := hV.ext ho34
  replace hC := hC.ext ho34
  refine wp_seq ?_
  refine rg ?_
  refine st (y_lss rfl rfl) ?_
  refine rg_end ?_
  refine n_then ?_
  refine wp_seq ?_
  refine cnd rfl (fun hc0 => ?_) (fun hc0 => ?_)
  ·
    try simp only [decide_eq_true_eq, decide_eq_false_iff_not, Bool.not_eq_true', Bool.not_eq_false', Bool.and_eq_true, Bool.or_eq_true, Bool.or_eq_false_iff, Bool.cond_true_right, Bool.cond_false_right, Bool.cond_true_left, Bool.cond_false_left, ne_eq, Decidable.not_not, bne_iff_ne, beq_iff_eq, beq_eq_false_iff_ne, Bool.not_true, Bool.not_false] at hc0
    have hmk := el_mem (l := l) (i := (k : Int)) (by omega) hc0
    have hak := hall _ hmk
    have hcyl := cy_len hak.1
    have htr := tot_rng hak.1.a hin (el l (k : Int)).arcs.length (Nat.le_refl _)
    refine wp_skip ?_
    refine n_then ?_
    refine wp_seq ?_
    refine wp_block ?_
    refine wp_seq ?_
    refine rg ?_
    refine st (mvI rfl) ?_
    refine st (asI rfl) ?_
    refine rg_end ?_
    refine n_then ?_
    refine wp_seq ?_
    refine rgD 11 (fun w_ => Ext w33 w_) (fun i => Nat.beq i 6) mixed (by kernel_rfl) ?_
    intro w36 ho37 hs38
    refine ⟨ho37, ?_⟩
    have hx39 := ho37
    refine tn rfl (fun _ hG => y_lbN (hb5.ext hG) agg26 rfl) ?_
    refine tn rfl (fun _ hG => mvS rfl) ?_
    refine tn rfl (fun _ hG => mvI rfl) ?_
    refine tn rfl (fun _ hG => y_ix (hC.tb.ext hG) sl30 rfl (rfl) rfl (by omega) (by omega)) ?_
    refine tn rfl (fun _ hG => y_lw (hC.tb.ext hG) agg37 rfl (by omega) (by omega)) ?_
    refine tn rfl (fun _ hG => mvS rfl) ?_
    refine tc rfl cl16 (ref11_Total_ok N A _ _ (el l (k : Int)).arcs (el l (k : Int)).signs _ _ _ _ _ _ _ _ vals _ _ _ _ _ (hN.ext hx39) ((hC.ext hx39).row _ hmk).1 hak.2 ((hC.ext hx39).row _ hmk).2 (by omega) (hV.ext hx39) (by omega)) rfl ?_
    rintro v44 w40 ⟨tt, ee, rfl, z1, z2, z3, ho41⟩
    obtain ⟨rfl, rfl⟩ := z3 hak.1 hin
    have hx45 := hx39.step ho41 (.inl (Nat.le_refl _))
    have hz46 := ho41.size
    refine ⟨hx45, ?_⟩
    refine tn rfl (fun _ hG => mvT rfl) ?_
    refine tn rfl (fun _ hG => y_ext rfl rfl) ?_
    refine tn rfl (fun _ hG => y_ext rfl rfl) ?_
    refine tn rfl (fun _ hG => asI rfl) ?_
    refine t_end ?_
    have hz47 := hx45.size
    replace hL0 := hL0.ext hx45
    replace hL1 := hL1.ext hx45
    replace hE := hE.step hx45 (.inl (Nat.le_refl _))
    replace hN := hN.ext hx45
    replace hb5 := hb5.ext hx45
    replace hTr := hTr.ext hx45
    replace hV := hV.ext hx45
    replace hC := hC.ext hx45
    replace hlp0 := hlp0.step hx45 (.inl (Nat.le_refl _))
    refine st (asI rfl) ?_
    refine rg_end ?_
    refine n_then ?_
    refine rg ?_
    refine st (mvB rfl) ?_
    refine st (mvB rfl) ?_
    refine gspL 50 rfl (fun hg48 => ?_) (fun hg48 => ?_)
    ·
      have hg48n := hg48; try simp only [decide_eq_true_eq, decide_eq_false_iff_not, Bool.not_eq_true', Bool.not_eq_false', Bool.and_eq_true, Bool.or_eq_true, Bool.or_eq_false_iff, Bool.cond_true_right, Bool.cond_false_right, Bool.cond_true_left, Bool.cond_false_left, ne_eq, Decidable.not_not, bne_iff_ne, beq_iff_eq, beq_eq_false_iff_ne, Bool.not_true, Bool.not_false] at hg48n
      refine stg rfl rfl hg48 (mvI rfl) ?_
      refine stg rfl rfl hg48 (y_fld fld26_0 rfl) ?_
      refine stg rfl rfl hg48 (y_lb hb5 na3 rfl rfl) ?_
      refine scg rfl rfl hg48 cl17 (ref1_Mod_ok _ _ _ (by omega) (by omega) (by omega)) rfl ?_
      rintro v53 w49 ⟨rfl, ho50⟩
      have hz54 := ho50.size
      replace hL0 := hL0.ext ho50
      replace hL1 := hL1.ext ho50
      replace hE := hE.step ho50 (.inl (Nat.le_refl _))
      replace hN := hN.ext ho50
      replace hb5 := hb5.ext ho50
      replace hTr := hTr.ext ho50
      replace hV := hV.ext ho50
      replace hC := hC.ext ho50
      replace hlp0 := hlp0.step ho50 (.inl (Nat.le_refl _))
      refine stg rfl rfl hg48 (y_eql rfl rfl) ?_
      refine st (y_pickT rfl hg48 (v := .bool _) rfl) ?_
      refine st (asB rfl) ?_
      refine rg_end ?_
      refine n_blk ?_
      refine n_then ?_
      refine rg ?_
      refine st (y_add rfl rfl (by omega)) ?_
      refine st (mvI rfl) ?_
      refine rg_end ?_
      exact n_then ⟨(k + 1, _), _, rfl, same_lk rfl (same_h0), ⟨rfl, rfl, trivial⟩, ⟨hlp0, by omega, all_step hcl (by first | (rw [decide_eq_true_eq]; exact ⟨fun h => ⟨by assumption, h⟩, fun h => h.2⟩) | exact ⟨fun h => (by cases h), fun h => (by rw [show b = false by assumption] at h; exact absurd h.1 (by decide))⟩)⟩, by first | omega | (dsimp only; omega)⟩
    ·
      have hg48n := hg48; try simp only [decide_eq_true_eq, decide_eq_false_iff_not, Bool.not_eq_true', Bool.not_eq_false', Bool.and_eq_true, Bool.or_eq_true, Bool.or_eq_false_iff, Bool.cond_true_right, Bool.cond_false_right, Bool.cond_true_left, Bool.cond_false_left, ne_eq, Decidable.not_not, bne_iff_ne, beq_iff_eq, beq_eq_false_iff_ne, Bool.not_true, Bool.not_false] at hg48n
      refine sts rfl rfl hg48 ?_
      refine sts rfl rfl hg48 ?_
      refine sts rfl rfl hg48 ?_
      refine sts rfl rfl hg48 ?_
      refine sts rfl rfl hg48 ?_
      refine st (y_pickF rfl hg48 (v := .bool _) rfl) ?_
      refine st (asB rfl) ?_
      refine rg_end ?_
      refine n_blk ?_
      refine n_then ?_
      refine rg ?_
      refine st (y_add rfl rfl (by omega)) ?_
      refine st (mvI rfl) ?_
      refine rg_end ?_
      exact n_then ⟨(k + 1, _), _, rfl, same_lk rfl (same_h0), ⟨rfl, rfl, trivial⟩, ⟨hlp0, by omega, all_step hcl (by first | (rw [decide_eq_true_eq]; exact ⟨fun h => ⟨by assumption, h⟩, fun h => h.2⟩) | exact ⟨fun h => (by cases h), fun h => (by rw [show b = false by assumption] at h; exact absurd h.1 (by decide))⟩)⟩, by first | omega | (dsimp only; omega)⟩
  ·
    try simp only [decide_eq_true_eq, decide_eq_false_iff_not, Bool.not_eq_true', Bool.not_eq_false', Bool.and_eq_true, Bool.or_eq_true, Bool.or_eq_false_iff, Bool.cond_true_right, Bool.cond_false_right, Bool.cond_true_left, Bool.cond_false_left, ne_eq, Decidable.not_not, bne_iff_ne, beq_iff_eq, beq_eq_false_iff_ne, Bool.not_true, Bool.not_false] at hc0
    have hkl : k = l.length := by omega
    subst hkl
    refine wp_exit ?_
    refine e_then (e_then (e_blk (?_)))
    refine n_then ?_
    refine wp_seq ?_
    refine rg ?_
    refine st (y_lbN hb5 agg26 rfl) ?_
    refine st (mvS rfl) ?_
    refine st (mvS rfl) ?_
    refine sc cl18 (cycles_Potentials_ok N A _ _ (trX N) _ _ _ _ vals _ _ _ _ _ hN hTr (by omega) hV (by omega)) rfl ?_
    rintro v59 w55 ⟨ap, cp, p, e2, rfl, hP, z1, z2, z3, ho56⟩
    obtain ⟨rfl, hpo⟩ := z3 hfo hin
    have hpl := hpo.len
    have hz60 := ho56.size
    replace hL0 := hL0.ext ho56
    replace hL1 := hL1.ext ho56
    replace hE := hE.step ho56 (.inl (Nat.le_refl _))
    replace hN := hN.ext ho56
    replace hb5 := hb5.ext ho56
    replace hTr := hTr.ext ho56
    replace hV := hV.ext ho56
    replace hC := hC.ext ho56
    refine st (mvT rfl) ?_
    refine st (y_ext rfl rfl) ?_
    refine st (y_ext rfl rfl) ?_
    refine st (asS rfl) ?_
    refine st (asI rfl) ?_
    refine rg_end ?_
    refine n_then ?_
    refine wp_seq ?_
    refine wp_seq ?_
    refine rg ?_
    refine sc cl19 (law12_awake_ok _) rfl ?_
    rintro v65 w61 ⟨rfl, ho62⟩
    have hz66 := ho62.size
    replace hL0 := hL0.ext ho62
    replace hL1 := hL1.ext ho62
    replace hE := hE.step ho62 (.inl (Nat.le_refl _))
    replace hN := hN.ext ho62
    replace hb5 := hb5.ext ho62
    replace hTr := hTr.ext ho62
    replace hV := hV.ext ho62
    replace hC := hC.ext ho62
    replace hP := hP.ext ho62
    refine st (y_not rfl) ?_
    refine st (mvB rfl) ?_
    refine stg rfl rfl rfl (mvI rfl) ?_
    refine stg rfl rfl rfl (y_neq rfl rfl) ?_
    refine st (y_pickF rfl rfl (v := .bool _) rfl) ?_
    refine st (mvB rfl) ?_
    refine stg rfl rfl (decide_eq_false (not_not_intro rfl)) (mvS rfl) ?_
    refine stg rfl rfl (decide_eq_false (not_not_intro rfl)) (y_len Try.underlying22 rfl) ?_
    refine stg rfl rfl (decide_eq_false (not_not_intro rfl)) (y_fld fld26_1 rfl) ?_
    refine stg rfl rfl (decide_eq_false (not_not_intro rfl)) (y_lb hb5 na23 rfl rfl) ?_
    refine stg rfl rfl (decide_eq_false (not_not_intro rfl)) (y_len Try.underlying23 rfl) ?_
    refine stg rfl rfl (decide_eq_false (not_not_intro rfl)) (y_neq rfl rfl) ?_
    refine st (y_pickF rfl (decide_eq_false (not_not_intro rfl)) (v := .bool _) rfl) ?_
    refine rg_end ?_
    refine n_then ?_
    refine cnd rfl (fun hc1 => absurd ((decide_eq_false (not_not_intro (congrArg Int.ofNat hpo.len))).symm.trans hc1) (by decide)) (fun hc1 => ?_)
    refine wp_skip ?_
    refine n_then ?_
    refine wp_seq ?_
    refine rg ?_
    refine st (asB rfl) ?_
    refine rg_end ?_
    refine n_then ?_
    refine wp_seq ?_
    refine wp_seq ?_
    refine rg ?_
    refine st (y_fld fld26_2 rfl) ?_
    refine st (y_lb hb5 na24 rfl rfl) ?_
    refine st (y_len Try.underlying24 rfl) ?_
    refine st (mvI rfl) ?_
    refine rg_end ?_
    refine n_then ?_
    refine wp_block ?_
    refine lp (γ := Nat × Bool) [16, 17, 18, 82, 83, 84, 85, 86, 87, 88, 89, 90, 91, 92, 93, 94, 95, 96, 97, 98, 99, 100, 101, 102, 103, 104, 105, 106, 107, 108, 109, 110, 111, 112, 113] (fun ⟨k, b2⟩ => [(82, .int .i64 (k : Int)), (16, .bool b2)]) (fun ⟨k, b2⟩ w_ => Ext w61 w_ ∧ (k : Int) ≤ N.acts.length ∧ (b2 = true ↔ ∀ j : Nat, j < k → (el p (el N.acts (j : Int)).tt - el p (el N.acts (j : Int)).fr - el vals (j : Int)) % N.p = 0)) (fun ⟨k, b2⟩ => N.acts.length - k) (0, true) ⟨rfl, rfl, trivial⟩ ⟨Out.refl _ _ _, by simp, ⟨fun _ j hj => by omega, fun _ => rfl⟩⟩ ?_
    rintro ⟨k, b2⟩ hav_ w67 ⟨ho68, hk, hal⟩
    have hlp1 := ho68
    have hz69 := ho68.size
    replace hL0 := hL0.ext ho68
    replace hL1 := hL1.ext ho68
    replace hE := hE.step ho68 (.inl (Nat.le_refl _))
    replace hN := hN.ext ho68
    replace hb5 := hb5.ext ho68
    replace hTr := hTr.ext ho68
    replace hV := hV.ext ho68
    replace hC := hC.ext ho68
    replace hP := hP.ext ho68
    refine wp_seq ?_
    refine rg ?_
    refine st (y_lss rfl rfl) ?_
    refine rg_end ?_
    refine n_then ?_
    refine wp_seq ?_
    refine cnd rfl (fun hc2 => ?_) (fun hc2 => ?_)
    ·
      try simp only [decide_eq_true_eq, decide_eq_false_iff_not, Bool.not_eq_true', Bool.not_eq_false', Bool.and_eq_true, Bool.or_eq_true, Bool.or_eq_false_iff, Bool.cond_true_right, Bool.cond_false_right, Bool.cond_true_left, Bool.cond_false_left, ne_eq, Decidable.not_not, bne_iff_ne, beq_iff_eq, beq_eq_false_iff_ne, Bool.not_true, Bool.not_false] at hc2
      have hmk := el_mem (l := N.acts) (i := (k : Int)) (by omega) hc2
      have ha := hok.acs _ hmk
      have hf0 := ha.f0
      have hf1 := ha.f1
      have ht0 := ha.t0
      have ht1 := ha.t1
      have r1 := hpo.rng _ hf0 hf1
      have r2 := hpo.rng _ ht0 ht1
      have r3 := hvr k (by omega)
      refine wp_skip ?_
      refine n_then ?_
      refine wp_seq ?_
      refine wp_block ?_
      refine wp_seq ?_
      refine rg ?_
      refine st (mvI rfl) ?_
      refine st (asI rfl) ?_
      refine rg_end ?_
      refine n_then ?_
      refine wp_seq ?_
      refine rg ?_
      refine st (y_fld fld26_2 rfl) ?_
      refine st (y_lb hb5 na24 rfl rfl) ?_
      refine st (mvI rfl) ?_
      refine st (y_ix hN.a sl24 rfl (rfl) rfl (by omega) (by omega)) ?_
      refine st (y_lw hN.a agg43 rfl (by omega) (by omega)) ?_
      refine sd (d_allocA zer43 ?_)
      intro ba w70 hbba hs72 ho71 hba
      have hz73 := ho71.size
      replace hL0 := hL0.ext ho71
      replace hL1 := hL1.ext ho71
      replace hE := hE.step ho71 (.inl (Nat.le_refl _))
      replace hN := hN.ext ho71
      replace hb5 := hb5.ext ho71
      replace hTr := hTr.ext ho71
      replace hV := hV.ext ho71
      replace hC := hC.ext ho71
      replace hP := hP.ext ho71
      replace hlp1 := hlp1.step ho71 (.inl (Nat.le_refl _))
      refine sd0 (d_stN hba rfl rfl sz43 rfl rfl ?_)
      intro w74 hs76 ho75 hba'
      clear hba; have hba := hba'; clear hba'
      have hz77 := ho75.size
      replace hL0 := hL0.out ho75 (by first | omega | (simp only [blk_some, hi1_some] at *; omega))
      replace hL1 := hL1.out ho75 (by first | omega | (simp only [blk_some, hi1_some] at *; omega))
      replace hE := hE.step ho75 (by first | omega | (simp only [blk_some, hi1_some] at *; omega))
      replace hN := hN.out ho75 (by first | omega | (simp only [blk_some, hi1_some] at *; omega))
      replace hb5 := hb5.out ho75 (by first | omega | (simp only [blk_some, hi1_some] at *; omega))
      replace hTr := hTr.out ho75 (by first | omega | (simp only [blk_some, hi1_some] at *; omega))
      replace hV := hV.out ho75 (by first | omega | (simp only [blk_some, hi1_some] at *; omega))
      replace hC := hC.out ho75 (by first | omega | (simp only [blk_some, hi1_some] at *; omega))
      replace hP := hP.out ho75 (by first | omega | (simp only [blk_some, hi1_some] at *; omega))
      replace hlp1 := hlp1.step ho75 (by first | omega | (simp only [blk_some, hi1_some] at *; omega))
      refine rg_end ?_
      refine n_then ?_
      refine rgD 20 (fun w_ => Ext w74 w_) (fun i => false) mixed (by kernel_rfl) ?_
      intro w78 ho79 hs80
      refine ⟨ho79, ?_⟩
      have hx81 := ho79
      refine tn rfl (fun _ hG => mvB rfl) ?_
      refine tn rfl (fun _ hG => mvB rfl) ?_
      refine gspT 91 rfl (fun hg82 => ?_) (fun hg82 => ?_)
      ·
        have hg82n := hg82; try simp only [decide_eq_true_eq, decide_eq_false_iff_not, Bool.not_eq_true', Bool.not_eq_false', Bool.and_eq_true, Bool.or_eq_true, Bool.or_eq_false_iff, Bool.cond_true_right, Bool.cond_false_right, Bool.cond_true_left, Bool.cond_false_left, ne_eq, Decidable.not_not, bne_iff_ne, beq_iff_eq, beq_eq_false_iff_ne, Bool.not_true, Bool.not_false] at hg82n
        refine tng rfl rfl rfl hg82 (fun _ hG => mvS rfl) ?_
        refine tng rfl rfl rfl hg82 (fun _ hG => y_fld fld43_2 rfl) ?_
        refine tng rfl rfl rfl hg82 (fun _ hG => y_lb (hba.ext hG) na3 rfl rfl) ?_
        refine tng rfl rfl rfl hg82 (fun _ hG => y_ix (hP.ext hG) sl22 rfl (rfl) rfl (by omega) (by omega)) ?_
        refine tng rfl rfl rfl hg82 (fun _ hG => y_le (hP.ext hG) na3 rfl (by omega) (by omega) rfl) ?_
        refine tng rfl rfl rfl hg82 (fun _ hG => mvS rfl) ?_
        refine tng rfl rfl rfl hg82 (fun _ hG => y_fld fld43_1 rfl) ?_
        refine tng rfl rfl rfl hg82 (fun _ hG => y_lb (hba.ext hG) na3 rfl rfl) ?_
        refine tng rfl rfl rfl hg82 (fun _ hG => y_ix (hP.ext hG) sl22 rfl (rfl) rfl (by omega) (by omega)) ?_
        refine tng rfl rfl rfl hg82 (fun _ hG => y_le (hP.ext hG) na3 rfl (by omega) (by omega) rfl) ?_
        refine tng rfl rfl rfl hg82 (fun _ hG => y_sub rfl rfl (by omega)) ?_
        refine tng rfl rfl rfl hg82 (fun _ hG => mvS rfl) ?_
        refine tng rfl rfl rfl hg82 (fun _ hG => mvI rfl) ?_
        refine tng rfl rfl rfl hg82 (fun _ hG => y_ix (hV.ext hG) sl22 rfl (rfl) rfl (by omega) (by omega)) ?_
        refine tng rfl rfl rfl hg82 (fun _ hG => y_le (hV.ext hG) na3 rfl (by omega) (by omega) rfl) ?_
        refine tng rfl rfl rfl hg82 (fun _ hG => y_sub rfl rfl (by omega)) ?_
        refine tng rfl rfl rfl hg82 (fun _ hG => y_fld fld26_0 rfl) ?_
        refine tng rfl rfl rfl hg82 (fun _ hG => y_lb (hb5.ext hG) na3 rfl rfl) ?_
        refine t_end ?_
        have hz83 := hx81.size
        replace hL0 := hL0.ext hx81
        replace hL1 := hL1.ext hx81
        replace hE := hE.step hx81 (.inl (Nat.le_refl _))
        replace hN := hN.ext hx81
        replace hb5 := hb5.ext hx81
        replace hTr := hTr.ext hx81
        replace hV := hV.ext hx81
        replace hC := hC.ext hx81
        replace hP := hP.ext hx81
        replace hlp1 := hlp1.step hx81 (.inl (Nat.le_refl _))
        replace hba := hba.ext hx81
        refine scg rfl rfl hg82 cl17 (ref1_Mod_ok _ _ _ (by omega) (by omega) (by omega)) rfl ?_
        rintro v88 w84 ⟨rfl, ho85⟩
        have hz89 := ho85.size
        replace hL0 := hL0.ext ho85
        replace hL1 := hL1.ext ho85
        replace hE := hE.step ho85 (.inl (Nat.le_refl _))
        replace hN := hN.ext ho85
        replace hb5 := hb5.ext ho85
        replace hTr := hTr.ext ho85
        replace hV := hV.ext ho85
        replace hC := hC.ext ho85
        replace hP := hP.ext ho85
        replace hlp1 := hlp1.step ho85 (.inl (Nat.le_refl _))
        replace hba := hba.ext ho85
        refine stg rfl rfl hg82 (y_eql rfl rfl) ?_
        refine st (y_pickT rfl hg82 (v := .bool _) rfl) ?_
        refine st (asB rfl) ?_
        refine rg_end ?_
        refine n_blk ?_
        refine n_then ?_
        refine rg ?_
        refine st (y_add rfl rfl (by omega)) ?_
        refine st (mvI rfl) ?_
        refine rg_end ?_
        exact n_then ⟨(k + 1, _), _, rfl, same_lk rfl (same_h0), ⟨rfl, rfl, trivial⟩, ⟨hlp1, by omega, all_step hal (by first | (rw [decide_eq_true_eq]; exact ⟨fun h => ⟨by assumption, h⟩, fun h => h.2⟩) | exact ⟨fun h => (by cases h), fun h => (by rw [show b2 = false by assumption] at h; exact absurd h.1 (by decide))⟩)⟩, by first | omega | (dsimp only; omega)⟩
      ·
        have hg82n := hg82; try simp only [decide_eq_true_eq, decide_eq_false_iff_not, Bool.not_eq_true', Bool.not_eq_false', Bool.and_eq_true, Bool.or_eq_true, Bool.or_eq_false_iff, Bool.cond_true_right, Bool.cond_false_right, Bool.cond_true_left, Bool.cond_false_left, ne_eq, Decidable.not_not, bne_iff_ne, beq_iff_eq, beq_eq_false_iff_ne, Bool.not_true, Bool.not_false] at hg82n
        refine tns rfl rfl hg82 ?_
        refine tns rfl rfl hg82 ?_
        refine tns rfl rfl hg82 ?_
        refine tns rfl rfl hg82 ?_
        refine tns rfl rfl hg82 ?_
        refine tns rfl rfl hg82 ?_
        refine tns rfl rfl hg82 ?_
        refine tns rfl rfl hg82 ?_
        refine tns rfl rfl hg82 ?_
        refine tns rfl rfl hg82 ?_
        refine tns rfl rfl hg82 ?_
        refine tns rfl rfl hg82 ?_
        refine tns rfl rfl hg82 ?_
        refine tns rfl rfl hg82 ?_
        refine tns rfl rfl hg82 ?_
        refine tns rfl rfl hg82 ?_
        refine tns rfl rfl hg82 ?_
        refine tns rfl rfl hg82 ?_
        refine t_end ?_
        have hz90 := hx81.size
        replace hL0 := hL0.ext hx81
        replace hL1 := hL1.ext hx81
        replace hE := hE.step hx81 (.inl (Nat.le_refl _))
        replace hN := hN.ext hx81
        replace hb5 := hb5.ext hx81
        replace hTr := hTr.ext hx81
        replace hV := hV.ext hx81
        replace hC := hC.ext hx81
        replace hP := hP.ext hx81
        replace hlp1 := hlp1.step hx81 (.inl (Nat.le_refl _))
        replace hba := hba.ext hx81
        refine sts rfl rfl hg82 ?_
        refine sts rfl rfl hg82 ?_
        refine st (y_pickF rfl hg82 (v := .bool _) rfl) ?_
        refine st (asB rfl) ?_
        refine rg_end ?_
        refine n_blk ?_
        refine n_then ?_
        refine rg ?_
        refine st (y_add rfl rfl (by omega)) ?_
        refine st (mvI rfl) ?_
        refine rg_end ?_
        exact n_then ⟨(k + 1, _), _, rfl, same_lk rfl (same_h0), ⟨rfl, rfl, trivial⟩, ⟨hlp1, by omega, all_step hal (by first | (rw [decide_eq_true_eq]; exact ⟨fun h => ⟨by assumption, h⟩, fun h => h.2⟩) | exact ⟨fun h => (by cases h), fun h => (by rw [show b2 = false by assumption] at h; exact absurd h.1 (by decide))⟩)⟩, by first | omega | (dsimp only; omega)⟩
    ·
      try simp only [decide_eq_true_eq, decide_eq_false_iff_not, Bool.not_eq_true', Bool.not_eq_false', Bool.and_eq_true, Bool.or_eq_true, Bool.or_eq_false_iff, Bool.cond_true_right, Bool.cond_false_right, Bool.cond_true_left, Bool.cond_false_left, ne_eq, Decidable.not_not, bne_iff_ne, beq_iff_eq, beq_eq_false_iff_ne, Bool.not_true, Bool.not_false] at hc2
      have hkl : k = N.acts.length := by omega
      subst hkl
      have hiff := closed_iff hpo.dif hfr
      have hbb : (b2 == b) = true := by
        rw [beq_iff_eq, Bool.eq_iff_iff, hal, hcl]; exact hiff.symm
      refine wp_exit ?_
      refine e_then (e_then (e_blk (?_)))
      refine n_then ?_
      refine wp_seq ?_
      refine rg ?_
      refine st (mvB rfl) ?_
      refine st (mvB rfl) ?_
      refine st (y_eqlB rfl rfl Try.underlying4) ?_
      refine st (asB rfl) ?_
      refine rg_end ?_
      refine n_then ?_
      refine wp_ret ?_
      refine ret1 (v := (.bool _)) Try.results3 rfl ?_
      exact ⟨by rw [hbb], hE⟩
end Go.Proofs.Ytdgkaahghlbocaa
