/-
  Walks of the functions, printed by a program out of the code and the loops' relations.
-/
import Derived.Test.YtdgkaahghlbocaaWkD
import Derived.Test.YtdgkaahghlbocaaProg
import Derived.KernelRfl
import Derived.Test.YtdgkaahghlbocaaS8
import Derived.Test.YtdgkaahghlbocaaS9
namespace Go.Proofs.Ytdgkaahghlbocaa
open Go.Wk Go.RowKit
set_option linter.unusedVariables false
set_option linter.unusedSimpArgs false
theorem cl18 : Callable Try.prog 18 := ⟨Try.call18⟩

def ltD (N : Net) (x i : Int) : Bool := decide (wdA N x < wdA N i ∨ (wdA N x = wdA N i ∧ x < i))
def tle (N : Net) (i : Int) : List Int := (trX N).filter fun x => ltD N x i || decide (x = i)
theorem tle_mem {N : Net} {i x : Int} : x ∈ tle N i ↔ x ∈ trX N ∧ (ltW (wdA N) x i ∨ x = i) := by
  unfold tle ltD ltW
  rw [List.mem_filter, Bool.or_eq_true, decide_eq_true_eq, decide_eq_true_eq]
def meas (N : Net) (i : Int) : Nat := (wdA N i).toNat * N.acts.length + i.toNat
theorem meas_lt {N : Net} (hN : NetOk N) {i j : Int} (i0 : 0 ≤ i) (i1 : i < N.acts.length) (j0 : 0 ≤ j) (j1 : j < N.acts.length) (h : ltW (wdA N) j i) : meas N j < meas N i := by
  have oi := hN.acs _ (el_mem i0 i1)
  have oj := hN.acs _ (el_mem j0 j1)
  have wi : 0 ≤ wdA N i := by have := oi.m1; unfold wdA; omega
  have wj : 0 ≤ wdA N j := by have := oj.m1; unfold wdA; omega
  unfold meas
  rcases h with h | ⟨h, h2⟩
  · have h3 : (wdA N j).toNat + 1 ≤ (wdA N i).toNat := by omega
    have h4 := Nat.mul_le_mul_right N.acts.length h3
    rw [Nat.add_mul, Nat.one_mul] at h4
    omega
  · rw [h]; omega
/-- What comes ahead of an activity, and itself, joins its ends within the forest. -/
theorem tr_join {N : Net} (hN : NetOk N) : ∀ (m : Nat) (i : Int), 0 ≤ i → i < N.acts.length → meas N i < m → conB ((tle N i).map (el N.acts)) (el N.acts i).fr (el N.acts i).tt = true
  | 0, i, _, _, hm => by omega
  | m + 1, i, i0, i1, hm => by
    by_cases hi : i ∈ trX N
    · exact con_mem (List.mem_map.2 ⟨i, tle_mem.2 ⟨hi, .inr rfl⟩, rfl⟩)
    · have hb : conB (befL N i.toNat) (el N.acts i).fr (el N.acts i).tt = true := by
        cases e : conB (befL N i.toNat) (el N.acts i).fr (el N.acts i).tt with
        | true => rfl
        | false => exact absurd (trX_mem.2 ⟨⟨i0, i1⟩, e⟩) hi
      refine con_sub (fun a ha => ?_) hb
      obtain ⟨j, hj, rfl⟩ := List.mem_map.1 ha
      obtain ⟨h1, h2⟩ := List.mem_filter.1 hj
      have hj' := List.mem_range.1 h1
      have hlt : ltW (wdA N) (j : Int) i := by
        have h3 := of_decide_eq_true h2
        unfold ltW
        rw [wdA_nat, ← Int.toNat_of_nonneg i0, wdA_nat]
        rcases h3 with h3 | h3
        · exact .inl h3
        · exact .inr ⟨h3.1, by omega⟩
      have ih := tr_join hN m (j : Int) (by omega) (by omega) (by have := meas_lt hN i0 i1 (by omega) (by omega) hlt; omega)
      refine con_sub (fun b hb' => ?_) ih
      obtain ⟨x, hx, rfl⟩ := List.mem_map.1 hb'
      obtain ⟨q1, q2⟩ := tle_mem.1 hx
      refine con_mem (List.mem_map.2 ⟨x, tle_mem.2 ⟨q1, .inl ?_⟩, rfl⟩)
      rcases q2 with q2 | q2
      · exact q2.trans hlt
      · rw [q2]; exact hlt
theorem cyc_least {N : Net} (hN : NetOk N) (hf : FoOk N (trX N)) {i : Int} (i0 : 0 ≤ i) (i1 : i < N.acts.length) (hni : ¬ i ∈ trX N) {w : List (Int × Int)} (hw : Wa N (trX N) (el N.acts i).tt w (el N.acts i).fr) (hnd : (w.map Prod.fst).Nodup) : ∀ p ∈ w, wdA N p.1 ≤ wdA N i := by
  intro p hp
  by_cases hlt : wdA N p.1 ≤ wdA N i
  · exact hlt
  · obtain ⟨w1, w2, rfl⟩ := List.append_of_mem hp
    obtain ⟨k1, k2, k3⟩ := hw.split
    rw [List.map_append, List.map_cons, List.nodup_append] at hnd
    obtain ⟨n1, n2, n3⟩ := hnd
    rw [List.nodup_cons] at n2
    have hpm := (hw.mem p hp).1
    have hS : ∀ x ∈ (trX N).erase p.1, x ∈ trX N ∧ x ≠ p.1 := fun x hx => by
      have := (trX_nd N).mem_erase_iff.1 hx
      exact ⟨this.2, this.1⟩
    have hin : ∀ x : Int, x ∈ trX N → x ≠ p.1 → x ∈ (trX N).erase p.1 := fun x h1 h2 => (trX_nd N).mem_erase_iff.2 ⟨h2, h1⟩
    have b := fo_bridge hN hf.a hpm hS
    have E := con_eqk (((trX N).erase p.1).map (el N.acts))
    have c1 := (k1.sub (S' := (trX N).erase p.1) (fun z hz => hin _ (k1.mem z hz).1 (n3 _ (List.mem_map.2 ⟨z, hz, rfl⟩) _ List.mem_cons_self))).con
    have c2 := (k3.sub (S' := (trX N).erase p.1) (fun z hz => hin _ (k3.mem z hz).1 (fun e => n2.1 (e ▸ List.mem_map.2 ⟨z, hz, rfl⟩)))).con
    have c3 : conB (((trX N).erase p.1).map (el N.acts)) (el N.acts i).fr (el N.acts i).tt = true := by
      refine con_sub (fun a ha => ?_) (tr_join hN _ i i0 i1 (Nat.lt_succ_self _))
      obtain ⟨x, hx, rfl⟩ := List.mem_map.1 ha
      obtain ⟨q1, q2⟩ := tle_mem.1 hx
      refine con_mem (List.mem_map.2 ⟨x, hin x q1 (fun e => ?_), rfl⟩)
      rcases q2 with q2 | q2
      · subst e; unfold ltW at q2; omega
      · subst q2; exact hni q1
    have c4 := E.trans _ _ _ (E.symm _ _ c1) (E.trans _ _ _ (E.symm _ _ c3) (E.symm _ _ c2))
    rcases arc_ends (N := N) (a := p.1) k2 with ⟨e1, e2⟩ | ⟨e1, e2⟩ <;> rw [e1, e2] at c4
    · rw [b] at c4; cases c4
    · rw [E.symm _ _ c4] at b; cases b
theorem fun_least {N : Net} (hN : NetOk N) (hf : FoOk N (trX N)) {l : List Cyc} (h : FunR N (trX N) N.acts.length (l.map prC)) : ∀ k : Nat, k < l.length → ∀ q : Nat, q < (el l (k : Int)).arcs.length → wdA N (el (el l (k : Int)).arcs (q : Int)) ≤ wdA N (el (el l (k : Int)).arcs 0) := by
  intro k hk q hq
  obtain ⟨h1, h2⟩ := h
  rw [List.length_map] at h1 h2
  obtain ⟨w, a1, a2, a3⟩ := h2 k hk
  have e : el (l.map prC) (k : Int) = prC (el l (k : Int)) := by simp [el, hk]
  rw [e] at a3
  obtain ⟨e1, e2⟩ := Prod.mk.inj a3
  have hm := nonT_mem (el_mem (l := nonT (trX N) N.acts.length) (i := (k : Int)) (by omega) (by omega))
  rw [e1] at hq ⊢
  cases q with
  | zero => exact Int.le_refl _
  | succ q =>
    rw [el_consS]
    rw [List.length_cons, List.length_map] at hq
    have e3 : el (w.map Prod.fst) (q : Int) = (el w (q : Int)).1 := by simp [el, show q < w.length by omega]
    rw [e3]
    exact cyc_least hN hf hm.1 hm.2.1 hm.2.2 a1 a2 _ (el_mem (by omega) (by omega))
theorem pot_shift {N : Net} {tree x p : List Int} {f i : Nat} (hN : NetOk N) (htm : ∀ a ∈ tree, 0 ≤ a ∧ a < N.acts.length) (hp : PotOk N tree (N.acts.map (durA N x)) p) (hf : fstB (conB (tree.map (el N.acts))) f = true) (hfn : f < N.evs.length) (hi : i < N.evs.length) (hc : conB (tree.map (el N.acts)) (f : Int) (i : Int) = true) : el p (i : Int) = (el x (i : Int) - el x (f : Int)) % N.p := by
  have p2 := hN.p2
  have key := con_clo (S := fun z => decide ((el p z - el x z) % N.p = (el p f - el x f) % N.p)) (tree.map (el N.acts)) (fun a ha => by
    obtain ⟨t, ht, rfl⟩ := List.mem_map.1 ha
    have hr := htm t ht
    have h1 := hp.dif t ht
    rw [elMapC hr.1 hr.2] at h1
    obtain ⟨m, hm⟩ := dur_mod N x (el N.acts t)
    have h4 : (el p (el N.acts t).fr - el x (el N.acts t).fr) % N.p = (el p (el N.acts t).tt - el x (el N.acts t).tt) % N.p := by
      refine Int.emod_eq_emod_iff_emod_sub_eq_zero.2 (Int.emod_eq_zero_of_dvd ?_)
      have d := Int.dvd_of_emod_eq_zero h1
      have d2 : N.p ∣ m * N.p := Int.dvd_mul_left ..
      have := Int.dvd_neg.2 (Int.dvd_add d d2)
      rwa [show -(el p (el N.acts t).tt - el p (el N.acts t).fr - durA N x (el N.acts t) + m * N.p) = el p (el N.acts t).fr - el x (el N.acts t).fr - (el p (el N.acts t).tt - el x (el N.acts t).tt) by omega] at this
    show decide (_ % N.p = _) = decide (_ % N.p = _)
    rw [h4]) _ _ hc
  rw [decide_eq_true rfl] at key
  have h5 := of_decide_eq_true key.symm
  rw [hp.fst f hfn hf] at h5
  have r := hp.rng (i : Int) (by omega) (by omega)
  have h6 : el p (i : Int) % N.p = (el x (i : Int) - el x (f : Int)) % N.p := by
    refine Int.emod_eq_emod_iff_emod_sub_eq_zero.2 ?_
    have := Int.emod_eq_emod_iff_emod_sub_eq_zero.1 h5
    rwa [show el p (i : Int) - el x (i : Int) - (0 - el x (f : Int)) = el p (i : Int) - (el x (i : Int) - el x (f : Int)) by omega] at this
  rwa [Int.emod_eq_of_lt r.1 r.2] at h6

set_option maxHeartbeats 4000000 in
set_option maxRecDepth 100000 in
theorem law12_CyclesTreeIsLeast_ok (a0 : Option Addr) (c0 : Nat) (l0 : List Int) (w : World) (hL0 : Ints 0 w.heap.size w a0 l0) (hl0 : (l0.length : Int) ≤ 9223372036854775807) : Cal Try.prog 9 [.slice a0 l0.length c0] w (fun v w' => v = .bool true ∧ Ext w w') := by
 have hE : Out 0 0 w w := Out.refl _ _ w
 refine enter Try.func9 rfl Try.ntmps9 rfl ?_
 refine wp_seq ?_
 refine rg ?_
 refine st (asB rfl) ?_
 refine rg_end ?_
 refine n_then ?_
 refine wp_seq ?_
 refine rg ?_
 refine st (mvS rfl) ?_
 refine sc cl12 (keep_Network_ok _ _ _ _ _ _ hL0 hl0) rfl ?_
 rintro v5 w1 ⟨N, A, rfl, hsm, hev, hac, hdis, ho2⟩
 have hN : NetIn _ _ _ N A := ⟨Ow.sl hev, Ow.sl hac⟩
 clear hev hac
 have hok := hsm.1
 have hev1 := hok.ev
 have hac8 := hsm.2.2.2.2.2.1
 have hp2 := hsm.2.1
 have hp9 := hsm.2.2.1
 have hz6 := ho2.size
 replace hL0 := hL0.ext ho2
 replace hE := hE.step ho2 (.inl (Nat.le_refl _))
 refine sd (d_allocA zer26 ?_)
 intro b3 w7 hbb3 hs9 ho8 hb3
 have hz10 := ho8.size
 replace hL0 := hL0.ext ho8
 replace hE := hE.step ho8 (.inl (Nat.le_refl _))
 replace hN := hN.ext ho8
 refine sd0 (d_stN hb3 rfl rfl sz26 rfl rfl ?_)
 intro w11 hs13 ho12 hb3'
 clear hb3; have hb3 := hb3'; clear hb3'
 have hz14 := ho12.size
 replace hL0 := hL0.out ho12 (by first | omega | (simp only [blk_some, hi1_some] at *; omega))
 replace hE := hE.step ho12 (by first | omega | (simp only [blk_some, hi1_some] at *; omega))
 replace hN := hN.out ho12 (by first | omega | (simp only [blk_some, hi1_some] at *; omega))
 refine rg_end ?_
 refine n_then ?_
 refine wp_seq ?_
 refine rgD 8 (fun w_ => Ext w11 w_) (fun i => Nat.beq i 2 || Nat.beq i 3) mixed (by kernel_rfl) ?_
 intro w15 ho16 hs17
 refine ⟨ho16, ?_⟩
 have hx18 := ho16
 refine tn rfl (fun _ hG => y_lbN (hb3.ext hG) agg26 rfl) ?_
 refine tn rfl (fun _ hG => y_lbN (hb3.ext hG) agg26 rfl) ?_
 refine tc rfl cl28 (cycles_Tree_ok N A _ _ _ (hN.ext hx18)) rfl ?_
 rintro v23 w19 ⟨at1, ct1, tr, rfl, hTr, _, htr, htl, htc, ho20⟩
 obtain ⟨rfl, hfo⟩ := htr (netOk_iff.2 hok)
 have hx24 := hx18.step ho20 (.inl (Nat.le_refl _))
 have hz25 := ho20.size
 refine ⟨hx24, ?_⟩
 refine tc rfl cl30 (cycles_Fundamental_ok N A _ _ (trX N) _ _ _ _ _ (hN.ext hx24) hTr (by omega)) rfl ?_
 rintro v30 w26 ⟨ac, cc, l, e, rfl, hC, hall, hll, _, q2, ho27⟩
 obtain ⟨rfl, hfr⟩ := q2 hfo
 have hlst := fun_least hok hfo hfr
 have hx31 := hx24.step ho27 (.inl (Nat.le_refl _))
 have hz32 := ho27.size
 replace hTr := hTr.ext ho27
 refine ⟨hx31, ?_⟩
 refine tn rfl (fun _ hG => mvT rfl) ?_
 refine tn rfl (fun _ hG => y_ext rfl rfl) ?_
 refine tn rfl (fun _ hG => y_ext rfl rfl) ?_
 refine tn rfl (fun _ hG => asS rfl) ?_
 refine t_end ?_
 have hz33 := hx31.size
 replace hL0 := hL0.ext hx31
 replace hE := hE.step hx31 (.inl (Nat.le_refl _))
 replace hN := hN.ext hx31
 replace hb3 := hb3.ext hx31
 refine st (asI rfl) ?_
 refine rg_end ?_
 refine n_then ?_
 refine wp_seq ?_
 refine wp_seq ?_
 refine rg ?_
 refine sc cl19 (law12_awake_ok _) rfl ?_
 rintro v38 w34 ⟨rfl, ho35⟩
 have hz39 := ho35.size
 replace hL0 := hL0.ext ho35
 replace hE := hE.step ho35 (.inl (Nat.le_refl _))
 replace hN := hN.ext ho35
 replace hb3 := hb3.ext ho35
 replace hTr := hTr.ext ho35
 replace hC := hC.ext ho35
 refine st (y_not rfl) ?_
 refine st (mvB rfl) ?_
 refine stg rfl rfl rfl (mvI rfl) ?_
 refine stg rfl rfl rfl (y_neq rfl rfl) ?_
 refine st (y_pickF rfl rfl (v := .bool _) rfl) ?_
 refine rg_end ?_
 refine n_then ?_
 refine cnd rfl (fun hc0 => absurd ((decide_eq_false (not_not_intro rfl)).symm.trans hc0) (by decide)) (fun hc0 => ?_)
 refine wp_skip ?_
 refine n_then ?_
 refine wp_seq ?_
 refine wp_seq ?_
 refine rg ?_
 refine st (mvS rfl) ?_
 refine st (y_len Try.underlying30 rfl) ?_
 refine st (mvI rfl) ?_
 refine rg_end ?_
 refine n_then ?_
 refine wp_block ?_
 refine lp (γ := Nat) [2, 6, 7, 8, 9, 27, 28, 29, 30, 31, 32, 33, 34, 35, 36, 37, 38, 39, 40, 41, 42, 43, 44, 45, 46, 47, 48, 49, 50, 51, 52, 53, 54, 55, 56, 57, 58, 59, 60, 61, 62, 63, 64, 65, 66, 67, 68, 69, 70, 71, 72, 73, 74, 75, 76, 77, 78, 79, 80, 81, 82, 83, 84, 85, 86, 87, 88, 89, 90] (fun k => [(27, .int .i64 (k : Int))]) (fun k w_ => Ext w34 w_ ∧ (k : Int) ≤ l.length) (fun k => l.length - k) 0 ⟨rfl, trivial⟩ ⟨Out.refl _ _ _, by omega⟩ ?_
 rintro k hav_ w40 ⟨ho41, hk⟩
 have hlp0 := ho41
 have hz42 := ho41.size
 replace hL0 := hL0.ext ho41
 replace hE := hE.step ho41 (.inl (Nat.le_refl _))
 replace hN := hN.ext ho41
 replace hb3 := hb3.ext ho41
 replace hTr := hTr.ext ho41
 replace hC := hC.ext ho41
 refine wp_seq ?_
 refine rg ?_
 refine st (y_lss rfl rfl) ?_
 refine rg_end ?_
 refine n_then ?_
 refine wp_seq ?_
 refine cnd rfl (fun hc1 => ?_) (fun hc1 => ?_)
 ·
  try simp only [nm] at hc1
  have hmk := el_mem (l := l) (i := (k : Int)) (by omega) hc1
  have hak := hall _ hmk
  have hcyl := cy_len hak.1
  have h2c := hak.1.two
  have hcr0 := hak.1.a.rng 0 (by omega)
  rw [show ((0 : Nat) : Int) = 0 from rfl] at hcr0
  have hcA := (hC.row _ hmk).1
  refine wp_skip ?_
  refine n_then ?_
  refine wp_seq ?_
  refine wp_block ?_
  refine wp_seq ?_
  refine rg ?_
  refine st (mvI rfl) ?_
  refine st (asI rfl) ?_
  refine rg_end ?_
  refine n_then ?_
  refine wp_seq ?_
  refine wp_seq ?_
  refine rgD 13 (fun w_ => Ext w40 w_) (fun i => Nat.beq i 5) mixed (by kernel_rfl) ?_
  intro w43 ho44 hs45
  refine ⟨ho44, ?_⟩
  have hx46 := ho44
  refine tn rfl (fun _ hG => y_lbN (hb3.ext hG) agg26 rfl) ?_
  refine tn rfl (fun _ hG => mvS rfl) ?_
  refine tn rfl (fun _ hG => mvI rfl) ?_
  refine tn rfl (fun _ hG => y_ix (hC.tb.ext hG) sl30 rfl (rfl) rfl (by omega) (by omega)) ?_
  refine tn rfl (fun _ hG => y_lw (hC.tb.ext hG) agg37 rfl (by omega) (by omega)) ?_
  refine tc rfl cl24 (cycles_Check_ok N A _ _ (el l (k : Int)).arcs (el l (k : Int)).signs _ _ _ _ _ _ _ _ _ (hN.ext hx46) ((hC.ext hx46).row _ hmk).1 hak.2 ((hC.ext hx46).row _ hmk).2 (by omega)) rfl ?_
  rintro v51 w47 ⟨b1, rfl, hb1, ho48⟩
  have hb1t : b1 = true := hb1.2 hak.1
  have hx52 := hx46.step ho48 (.inl (Nat.le_refl _))
  have hz53 := ho48.size
  refine ⟨hx52, ?_⟩
  refine tn rfl (fun _ hG => y_not rfl) ?_
  refine tn rfl (fun _ hG => mvB rfl) ?_
  refine tng rfl rfl rfl (congrArg Bool.not hb1t) (fun _ hG => y_lbN (hb3.ext hG) agg26 rfl) ?_
  refine tng rfl rfl rfl (congrArg Bool.not hb1t) (fun _ hG => mvS rfl) ?_
  refine tng rfl rfl rfl (congrArg Bool.not hb1t) (fun _ hG => mvI rfl) ?_
  refine tng rfl rfl rfl (congrArg Bool.not hb1t) (fun _ hG => y_ix (hC.tb.ext hG) sl30 rfl (rfl) rfl (by omega) (by omega)) ?_
  refine tng rfl rfl rfl (congrArg Bool.not hb1t) (fun _ hG => y_lw (hC.tb.ext hG) agg37 rfl (by omega) (by omega)) ?_
  refine t_end ?_
  have hz54 := hx52.size
  replace hL0 := hL0.ext hx52
  replace hE := hE.step hx52 (.inl (Nat.le_refl _))
  replace hN := hN.ext hx52
  replace hb3 := hb3.ext hx52
  replace hTr := hTr.ext hx52
  replace hC := hC.ext hx52
  replace hlp0 := hlp0.step hx52 (.inl (Nat.le_refl _))
  replace hcA := hcA.ext hx52
  refine scg rfl rfl (congrArg Bool.not hb1t) cl35 (ref11_CheckCycle_ok N A _ _ (el l (k : Int)).arcs (el l (k : Int)).signs _ _ _ _ _ _ _ _ _ hN (hC.row _ hmk).1 hak.2 (hC.row _ hmk).2 (by omega)) rfl ?_
  rintro v59 w55 ⟨b2, rfl, hb2, ho56⟩
  have hb2t : b2 = true := hb2.2 hak.1
  have hz60 := ho56.size
  replace hL0 := hL0.ext ho56
  replace hE := hE.step ho56 (.inl (Nat.le_refl _))
  replace hN := hN.ext ho56
  replace hb3 := hb3.ext ho56
  replace hTr := hTr.ext ho56
  replace hC := hC.ext ho56
  replace hlp0 := hlp0.step ho56 (.inl (Nat.le_refl _))
  replace hcA := hcA.ext ho56
  refine stg rfl rfl (congrArg Bool.not hb1t) (y_not rfl) ?_
  refine st (y_pickF rfl (congrArg Bool.not hb1t) (v := .bool _) rfl) ?_
  refine rg_end ?_
  refine n_then ?_
  refine cnd rfl (fun hc2 => absurd ((congrArg Bool.not hb2t).symm.trans hc2) (by decide)) (fun hc2 => ?_)
  refine wp_skip ?_
  refine n_then ?_
  refine wp_seq ?_
  refine rgD 12 (fun w_ => Ext w55 w_) (fun i => Nat.beq i 11) mixed (by kernel_rfl) ?_
  intro w61 ho62 hs63
  refine ⟨ho62, ?_⟩
  have hx64 := ho62
  refine tn rfl (fun _ hG => y_fld fld26_2 rfl) ?_
  refine tn rfl (fun _ hG => y_lb (hb3.ext hG) na24 rfl rfl) ?_
  refine tn rfl (fun _ hG => mvS rfl) ?_
  refine tn rfl (fun _ hG => mvI rfl) ?_
  refine tn rfl (fun _ hG => y_ix (hC.tb.ext hG) sl30 rfl (rfl) rfl (by omega) (by omega)) ?_
  refine tn rfl (fun _ hG => y_fld fld37_0 rfl) ?_
  refine tn rfl (fun _ hG => y_lf (hC.tb.ext hG) na22 rfl (by omega) (by omega) rfl) ?_
  refine tn rfl (fun _ hG => y_ix (hcA.ext hG) sl22 rfl (rfl) rfl (by omega) (by omega)) ?_
  refine tn rfl (fun _ hG => y_le (hcA.ext hG) na3 rfl (by omega) (by omega) rfl) ?_
  refine tn rfl (fun _ hG => y_ix (hN.a.ext hG) sl24 rfl (rfl) rfl (by omega) (by omega)) ?_
  refine tn rfl (fun _ hG => y_lw (hN.a.ext hG) agg43 rfl (by omega) (by omega)) ?_
  refine td rfl (d_allocA zer43 ?_)
  intro bo w65 hbbo hs67 ho66 hbo
  have hx68 := hx64.step ho66 (.inl (Nat.le_refl _))
  have hz69 := ho66.size
  refine ⟨hx68, ?_⟩
  refine t_end ?_
  have hz70 := hx68.size
  replace hL0 := hL0.ext hx68
  replace hE := hE.step hx68 (.inl (Nat.le_refl _))
  replace hN := hN.ext hx68
  replace hb3 := hb3.ext hx68
  replace hTr := hTr.ext hx68
  replace hC := hC.ext hx68
  replace hlp0 := hlp0.step hx68 (.inl (Nat.le_refl _))
  replace hcA := hcA.ext hx68
  refine sd0 (d_stN hbo rfl rfl sz43 rfl rfl ?_)
  intro w71 hs73 ho72 hbo'
  clear hbo; have hbo := hbo'; clear hbo'
  have hz74 := ho72.size
  replace hL0 := hL0.out ho72 (by first | omega | (simp only [blk_some, hi1_some] at *; omega))
  replace hE := hE.step ho72 (by first | omega | (simp only [blk_some, hi1_some] at *; omega))
  replace hN := hN.out ho72 (by first | omega | (simp only [blk_some, hi1_some] at *; omega))
  replace hb3 := hb3.out ho72 (by first | omega | (simp only [blk_some, hi1_some] at *; omega))
  replace hTr := hTr.out ho72 (by first | omega | (simp only [blk_some, hi1_some] at *; omega))
  replace hC := hC.out ho72 (by first | omega | (simp only [blk_some, hi1_some] at *; omega))
  replace hlp0 := hlp0.step ho72 (by first | omega | (simp only [blk_some, hi1_some] at *; omega))
  replace hcA := hcA.out ho72 (by first | omega | (simp only [blk_some, hi1_some] at *; omega))
  refine rg_end ?_
  refine n_then ?_
  refine wp_seq ?_
  refine rg ?_
  refine st (mvS rfl) ?_
  refine st (mvI rfl) ?_
  refine st (y_ix hC.tb sl30 rfl (rfl) rfl (by omega) (by omega)) ?_
  refine st (y_fld fld37_0 rfl) ?_
  refine st (y_lf hC.tb na22 rfl (by omega) (by omega) rfl) ?_
  refine st (y_len Try.underlying22 rfl) ?_
  refine st (mvI rfl) ?_
  refine rg_end ?_
  refine n_then ?_
  refine wp_block ?_
  refine lp (γ := Nat) [2, 8, 9, 63, 64, 65, 66, 67, 68, 69, 70, 71, 72, 73, 74, 75, 76, 77, 78, 79, 80, 81, 82, 83, 84, 85, 86, 87, 88, 89] (fun q => [(63, .int .i64 (q : Int))]) (fun q w_ => Ext w71 w_ ∧ (q : Int) ≤ (el l (k : Int)).arcs.length) (fun q => (el l (k : Int)).arcs.length - q) 0 ⟨rfl, trivial⟩ ⟨Out.refl _ _ _, by omega⟩ ?_
  rintro q hav_ w75 ⟨ho76, hq⟩
  have hlp1 := ho76
  have hz77 := ho76.size
  replace hL0 := hL0.ext ho76
  replace hE := hE.step ho76 (.inl (Nat.le_refl _))
  replace hN := hN.ext ho76
  replace hb3 := hb3.ext ho76
  replace hTr := hTr.ext ho76
  replace hC := hC.ext ho76
  replace hlp0 := hlp0.step ho76 (.inl (Nat.le_refl _))
  replace hcA := hcA.ext ho76
  replace hbo := hbo.ext ho76
  refine wp_seq ?_
  refine rg ?_
  refine st (y_lss rfl rfl) ?_
  refine rg_end ?_
  refine n_then ?_
  refine wp_seq ?_
  refine cnd rfl (fun hc3 => ?_) (fun hc3 => ?_)
  ·
   try simp only [nm] at hc3
   have hcrq := hak.1.a.rng q (by omega)
   have hle := hlst k (by omega) q (by omega)
   unfold wdA at hle
   obtain ⟨_, _, _, _, _, u0, u1, u2, u3, _, _⟩ := hok.acs _ (el_mem hcrq.1 hcrq.2.1)
   obtain ⟨_, _, _, _, _, v0, v1, v2, v3, _, _⟩ := hok.acs _ (el_mem hcr0.1 hcr0.2.1)
   have hp7 := hok.p7
   refine wp_skip ?_
   refine n_then ?_
   refine wp_seq ?_
   refine wp_block ?_
   refine wp_seq ?_
   refine rg ?_
   refine st (mvI rfl) ?_
   refine st (asI rfl) ?_
   refine rg_end ?_
   refine n_then ?_
   refine wp_seq ?_
   refine rgD 13 (fun w_ => Ext w75 w_) (fun i => Nat.beq i 12) mixed (by kernel_rfl) ?_
   intro w78 ho79 hs80
   refine ⟨ho79, ?_⟩
   have hx81 := ho79
   refine tn rfl (fun _ hG => y_fld fld26_2 rfl) ?_
   refine tn rfl (fun _ hG => y_lb (hb3.ext hG) na24 rfl rfl) ?_
   refine tn rfl (fun _ hG => mvS rfl) ?_
   refine tn rfl (fun _ hG => mvI rfl) ?_
   refine tn rfl (fun _ hG => y_ix (hC.tb.ext hG) sl30 rfl (rfl) rfl (by omega) (by omega)) ?_
   refine tn rfl (fun _ hG => y_fld fld37_0 rfl) ?_
   refine tn rfl (fun _ hG => y_lf (hC.tb.ext hG) na22 rfl (by omega) (by omega) rfl) ?_
   refine tn rfl (fun _ hG => mvI rfl) ?_
   refine tn rfl (fun _ hG => y_ix (hcA.ext hG) sl22 rfl (rfl) rfl (by omega) (by omega)) ?_
   refine tn rfl (fun _ hG => y_le (hcA.ext hG) na3 rfl (by omega) (by omega) rfl) ?_
   refine tn rfl (fun _ hG => y_ix (hN.a.ext hG) sl24 rfl (rfl) rfl (by omega) (by omega)) ?_
   refine tn rfl (fun _ hG => y_lw (hN.a.ext hG) agg43 rfl (by omega) (by omega)) ?_
   refine td rfl (d_allocA zer43 ?_)
   intro bq w82 hbbq hs84 ho83 hbq
   have hx85 := hx81.step ho83 (.inl (Nat.le_refl _))
   have hz86 := ho83.size
   refine ⟨hx85, ?_⟩
   refine t_end ?_
   have hz87 := hx85.size
   replace hL0 := hL0.ext hx85
   replace hE := hE.step hx85 (.inl (Nat.le_refl _))
   replace hN := hN.ext hx85
   replace hb3 := hb3.ext hx85
   replace hTr := hTr.ext hx85
   replace hC := hC.ext hx85
   replace hlp0 := hlp0.step hx85 (.inl (Nat.le_refl _))
   replace hcA := hcA.ext hx85
   replace hbo := hbo.ext hx85
   replace hlp1 := hlp1.step hx85 (.inl (Nat.le_refl _))
   refine sd0 (d_stN hbq rfl rfl sz43 rfl rfl ?_)
   intro w88 hs90 ho89 hbq'
   clear hbq; have hbq := hbq'; clear hbq'
   have hz91 := ho89.size
   replace hL0 := hL0.out ho89 (by first | omega | (simp only [blk_some, hi1_some] at *; omega))
   replace hE := hE.step ho89 (by first | omega | (simp only [blk_some, hi1_some] at *; omega))
   replace hN := hN.out ho89 (by first | omega | (simp only [blk_some, hi1_some] at *; omega))
   replace hb3 := hb3.out ho89 (by first | omega | (simp only [blk_some, hi1_some] at *; omega))
   replace hTr := hTr.out ho89 (by first | omega | (simp only [blk_some, hi1_some] at *; omega))
   replace hC := hC.out ho89 (by first | omega | (simp only [blk_some, hi1_some] at *; omega))
   replace hlp0 := hlp0.step ho89 (by first | omega | (simp only [blk_some, hi1_some] at *; omega))
   replace hcA := hcA.out ho89 (by first | omega | (simp only [blk_some, hi1_some] at *; omega))
   replace hbo := hbo.out ho89 (by first | omega | (simp only [blk_some, hi1_some] at *; omega))
   replace hlp1 := hlp1.step ho89 (by first | omega | (simp only [blk_some, hi1_some] at *; omega))
   refine rg_end ?_
   refine n_then ?_
   refine wp_seq ?_
   refine rg ?_
   refine st (y_fld fld43_4 rfl) ?_
   refine st (y_lb hbq na3 rfl rfl) ?_
   refine st (y_fld fld43_3 rfl) ?_
   refine st (y_lb hbq na3 rfl rfl) ?_
   refine st (y_sub rfl rfl (by omega)) ?_
   refine st (y_fld fld43_4 rfl) ?_
   refine st (y_lb hbo na3 rfl rfl) ?_
   refine st (y_fld fld43_3 rfl) ?_
   refine st (y_lb hbo na3 rfl rfl) ?_
   refine st (y_sub rfl rfl (by omega)) ?_
   refine st (y_gtr rfl rfl) ?_
   refine rg_end ?_
   refine n_then ?_
   refine cnd rfl (fun hc4 => absurd ((decide_eq_false (by omega)).symm.trans hc4) (by decide)) (fun hc4 => ?_)
   refine wp_skip ?_
   refine n_blk ?_
   refine n_then ?_
   refine rg ?_
   refine st (y_add rfl rfl (by omega)) ?_
   refine st (mvI rfl) ?_
   refine rg_end ?_
   exact n_then ⟨q + 1, _, rfl, same_lk rfl (same_h0), ⟨rfl, trivial⟩, ⟨hlp1, by omega⟩, by first | omega | (dsimp only; omega)⟩
  ·
   try simp only [nm] at hc3
   refine wp_exit ?_
   refine e_then (e_then (e_blk (?_)))
   refine n_blk ?_
   refine n_then ?_
   refine rg ?_
   refine st (y_add rfl rfl (by omega)) ?_
   refine st (mvI rfl) ?_
   refine rg_end ?_
   exact n_then ⟨k + 1, _, rfl, same_lk rfl (same_hav rfl (same_lk rfl (same_h0))), ⟨rfl, trivial⟩, ⟨hlp0, by omega⟩, by first | omega | (dsimp only; omega)⟩
 ·
  try simp only [nm] at hc1
  refine wp_exit ?_
  refine e_then (e_then (e_blk (?_)))
  refine n_then ?_
  refine wp_seq ?_
  refine rg ?_
  refine st (asB rfl) ?_
  refine rg_end ?_
  refine n_then ?_
  refine wp_ret ?_
  refine ret1 (v := (.bool _)) Try.results9 rfl ?_
  exact ⟨rfl, hE⟩

set_option maxHeartbeats 4000000 in
set_option maxRecDepth 100000 in
theorem law12_CyclesPotentialsInvertTensions_ok (a0 : Option Addr) (c0 : Nat) (l0 : List Int) (a1 : Option Addr) (c1 : Nat) (l1 : List Int) (w : World) (hL0 : Ints 0 w.heap.size w a0 l0) (hl0 : (l0.length : Int) ≤ 9223372036854775807) (hL1 : Ints 0 w.heap.size w a1 l1) (hl1 : (l1.length : Int) ≤ 9223372036854775807) : Cal Try.prog 8 [.slice a0 l0.length c0, .slice a1 l1.length c1] w (fun v w' => v = .bool true ∧ Ext w w') := by
 have hE : Out 0 0 w w := Out.refl _ _ w
 refine enter Try.func8 rfl Try.ntmps8 rfl ?_
 refine wp_seq ?_
 refine rg ?_
 refine st (asB rfl) ?_
 refine rg_end ?_
 refine n_then ?_
 refine wp_seq ?_
 refine rg ?_
 refine st (mvS rfl) ?_
 refine sc cl12 (keep_Network_ok _ _ _ _ _ _ hL0 hl0) rfl ?_
 rintro v5 w1 ⟨N, A, rfl, hsm, hev, hac, hdis, ho2⟩
 have hN : NetIn _ _ _ N A := ⟨Ow.sl hev, Ow.sl hac⟩
 clear hev hac
 have hok := hsm.1
 have hev1 := hok.ev
 have hac8 := hsm.2.2.2.2.2.1
 have hp2 := hsm.2.1
 have hp9 := hsm.2.2.1
 have hz6 := ho2.size
 replace hL0 := hL0.ext ho2
 replace hL1 := hL1.ext ho2
 replace hE := hE.step ho2 (.inl (Nat.le_refl _))
 refine sd (d_allocA zer26 ?_)
 intro b5 w7 hbb5 hs9 ho8 hb5
 have hz10 := ho8.size
 replace hL0 := hL0.ext ho8
 replace hL1 := hL1.ext ho8
 replace hE := hE.step ho8 (.inl (Nat.le_refl _))
 replace hN := hN.ext ho8
 refine sd0 (d_stN hb5 rfl rfl sz26 rfl rfl ?_)
 intro w11 hs13 ho12 hb5'
 clear hb5; have hb5 := hb5'; clear hb5'
 have hz14 := ho12.size
 replace hL0 := hL0.out ho12 (by first | omega | (simp only [blk_some, hi1_some] at *; omega))
 replace hL1 := hL1.out ho12 (by first | omega | (simp only [blk_some, hi1_some] at *; omega))
 replace hE := hE.step ho12 (by first | omega | (simp only [blk_some, hi1_some] at *; omega))
 replace hN := hN.out ho12 (by first | omega | (simp only [blk_some, hi1_some] at *; omega))
 refine rg_end ?_
 refine n_then ?_
 refine wp_seq ?_
 refine rg ?_
 refine st (y_lbN hb5 agg26 rfl) ?_
 refine st (mvS rfl) ?_
 refine sc cl20 (keep_Times_ok N A _ _ _ _ _ _ _ _ hN hL1 hl1 (by omega) (by omega)) rfl ?_
 rintro v19 w15 ⟨ax, cx, x, rfl, hX, hxl, hxr, ho16⟩
 have hg : GoodT N x := ⟨hok, hxl, hxr⟩
 obtain ⟨g1, g2, g3⟩ := ten_good hg
 have hz20 := ho16.size
 replace hL0 := hL0.ext ho16
 replace hL1 := hL1.ext ho16
 replace hE := hE.step ho16 (.inl (Nat.le_refl _))
 replace hN := hN.ext ho16
 replace hb5 := hb5.ext ho16
 refine st (asS rfl) ?_
 refine rg_end ?_
 refine n_then ?_
 refine wp_seq ?_
 refine rg ?_
 refine st (y_lbN hb5 agg26 rfl) ?_
 refine st (mvS rfl) ?_
 refine sc cl25 (cycles_Tensions_ok N A _ _ x _ _ _ _ _ hN hX) rfl ?_
 rintro v25 w21 ⟨ad1, cd1, rfl, hD, ho22⟩
 rw [g2] at hD
 rw [g1, g2]
 have hz26 := ho22.size
 replace hL0 := hL0.ext ho22
 replace hL1 := hL1.ext ho22
 replace hE := hE.step ho22 (.inl (Nat.le_refl _))
 replace hN := hN.ext ho22
 replace hb5 := hb5.ext ho22
 replace hX := hX.ext ho22
 refine st (mvT rfl) ?_
 refine st (y_ext rfl rfl) ?_
 refine st (y_ext rfl rfl) ?_
 refine st (asS rfl) ?_
 refine st (asI rfl) ?_
 refine rg_end ?_
 refine n_then ?_
 refine wp_seq ?_
 refine rgD 9 (fun w_ => Ext w21 w_) (fun i => Nat.beq i 2 || Nat.beq i 4) mixed (by kernel_rfl) ?_
 intro w27 ho28 hs29
 refine ⟨ho28, ?_⟩
 have hx30 := ho28
 refine tn rfl (fun _ hG => y_lbN (hb5.ext hG) agg26 rfl) ?_
 refine tn rfl (fun _ hG => y_lbN (hb5.ext hG) agg26 rfl) ?_
 refine tc rfl cl28 (cycles_Tree_ok N A _ _ _ (hN.ext hx30)) rfl ?_
 rintro v35 w31 ⟨at1, ct1, tr, rfl, hTr, _, htr, htl, htc, ho32⟩
 obtain ⟨rfl, hfo⟩ := htr (netOk_iff.2 hok)
 have hx36 := hx30.step ho32 (.inl (Nat.le_refl _))
 have hz37 := ho32.size
 refine ⟨hx36, ?_⟩
 refine tn rfl (fun _ hG => mvS rfl) ?_
 refine tc rfl cl18 (cycles_Potentials_ok N A _ _ (trX N) _ _ _ _ (N.acts.map (durA N x)) _ _ _ _ _ (hN.ext hx36) hTr (by omega) (hD.ext hx36) (by simp; omega)) rfl ?_
 rintro v42 w38 ⟨ap, cp, p, e2, rfl, hP, z1, z2, z3, ho39⟩
 obtain ⟨rfl, hpo⟩ := z3 hfo g3
 have hpl := hpo.len
 have hx43 := hx36.step ho39 (.inl (Nat.le_refl _))
 have hz44 := ho39.size
 replace hTr := hTr.ext ho39
 refine ⟨hx43, ?_⟩
 refine tn rfl (fun _ hG => mvT rfl) ?_
 refine tn rfl (fun _ hG => y_ext rfl rfl) ?_
 refine tn rfl (fun _ hG => y_ext rfl rfl) ?_
 refine tn rfl (fun _ hG => asS rfl) ?_
 refine t_end ?_
 have hz45 := hx43.size
 replace hL0 := hL0.ext hx43
 replace hL1 := hL1.ext hx43
 replace hE := hE.step hx43 (.inl (Nat.le_refl _))
 replace hN := hN.ext hx43
 replace hb5 := hb5.ext hx43
 replace hX := hX.ext hx43
 replace hD := hD.ext hx43
 refine st (asI rfl) ?_
 refine rg_end ?_
 refine n_then ?_
 refine wp_seq ?_
 refine wp_seq ?_
 refine rg ?_
 refine sc cl19 (law12_awake_ok _) rfl ?_
 rintro v50 w46 ⟨rfl, ho47⟩
 have hz51 := ho47.size
 replace hL0 := hL0.ext ho47
 replace hL1 := hL1.ext ho47
 replace hE := hE.step ho47 (.inl (Nat.le_refl _))
 replace hN := hN.ext ho47
 replace hb5 := hb5.ext ho47
 replace hX := hX.ext ho47
 replace hD := hD.ext ho47
 replace hTr := hTr.ext ho47
 replace hP := hP.ext ho47
 refine st (y_not rfl) ?_
 refine st (mvB rfl) ?_
 refine stg rfl rfl rfl (mvI rfl) ?_
 refine stg rfl rfl rfl (y_neq rfl rfl) ?_
 refine st (y_pickF rfl rfl (v := .bool _) rfl) ?_
 refine st (mvB rfl) ?_
 refine stg rfl rfl (decide_eq_false (not_not_intro rfl)) (mvS rfl) ?_
 refine stg rfl rfl (decide_eq_false (not_not_intro rfl)) (y_len Try.underlying22 rfl) ?_
 refine stg rfl rfl (decide_eq_false (not_not_intro rfl)) (mvS rfl) ?_
 refine stg rfl rfl (decide_eq_false (not_not_intro rfl)) (y_len Try.underlying22 rfl) ?_
 refine stg rfl rfl (decide_eq_false (not_not_intro rfl)) (y_neq rfl rfl) ?_
 refine st (y_pickF rfl (decide_eq_false (not_not_intro rfl)) (v := .bool _) rfl) ?_
 refine rg_end ?_
 refine n_then ?_
 refine cnd rfl (fun hc0 => absurd ((decide_eq_false (not_not_intro (congrArg Int.ofNat (hpo.len.trans hxl.symm)))).symm.trans hc0) (by decide)) (fun hc0 => ?_)
 refine wp_skip ?_
 refine n_then ?_
 refine wp_seq ?_
 refine rg ?_
 refine st (y_lbN hb5 agg26 rfl) ?_
 refine sc cl34 (ref11_Components_ok N A _ _ _ hN) rfl ?_
 rintro v56 w52 ⟨ac_, cc_, c, rfl, hC, _, hcc, ho53⟩
 replace hcc := hcc (netOk_iff.2 hok)
 have hcl := hcc.len
 have hz57 := ho53.size
 replace hL0 := hL0.ext ho53
 replace hL1 := hL1.ext ho53
 replace hE := hE.step ho53 (.inl (Nat.le_refl _))
 replace hN := hN.ext ho53
 replace hb5 := hb5.ext ho53
 replace hX := hX.ext ho53
 replace hD := hD.ext ho53
 replace hTr := hTr.ext ho53
 replace hP := hP.ext ho53
 refine st (asS rfl) ?_
 refine rg_end ?_
 refine n_then ?_
 refine wp_seq ?_
 refine wp_seq ?_
 refine rg ?_
 refine st (mvS rfl) ?_
 refine st (y_len Try.underlying22 rfl) ?_
 refine st (mvI rfl) ?_
 refine rg_end ?_
 refine n_then ?_
 refine wp_block ?_
 refine lp (γ := Nat) [4, 12, 13, 50, 51, 52, 53, 54, 55, 56, 57, 58, 59, 60, 61, 62, 63, 64, 65, 66, 67, 68, 69, 70, 71, 72, 73, 74, 75, 76, 77, 78, 79, 80, 81] (fun k => [(50, .int .i64 (k : Int))]) (fun k w_ => Ext w52 w_ ∧ k ≤ N.evs.length) (fun k => N.evs.length - k) 0 ⟨rfl, trivial⟩ ⟨Out.refl _ _ _, by omega⟩ ?_
 rintro k hav_ w58 ⟨ho59, hk⟩
 have hlp0 := ho59
 have hz60 := ho59.size
 replace hL0 := hL0.ext ho59
 replace hL1 := hL1.ext ho59
 replace hE := hE.step ho59 (.inl (Nat.le_refl _))
 replace hN := hN.ext ho59
 replace hb5 := hb5.ext ho59
 replace hX := hX.ext ho59
 replace hD := hD.ext ho59
 replace hTr := hTr.ext ho59
 replace hP := hP.ext ho59
 replace hC := hC.ext ho59
 refine wp_seq ?_
 refine rg ?_
 refine st (y_lss rfl rfl) ?_
 refine rg_end ?_
 refine n_then ?_
 refine wp_seq ?_
 refine cnd rfl (fun hc1 => ?_) (fun hc1 => ?_)
 ·
  try simp only [nm] at hc1
  refine wp_skip ?_
  refine n_then ?_
  refine wp_seq ?_
  refine wp_block ?_
  refine wp_seq ?_
  refine rg ?_
  refine st (mvI rfl) ?_
  refine st (asI rfl) ?_
  refine rg_end ?_
  refine n_then ?_
  refine wp_seq ?_
  refine rg ?_
  refine st (asI rfl) ?_
  refine rg_end ?_
  refine n_then ?_
  refine wp_seq ?_
  refine wp_block ?_
  refine lp (γ := Nat) [13, 53, 54, 55, 56, 57, 58, 59, 60, 61, 62, 63] (fun f => [(13, .int .i64 (f : Int))]) (fun f w_ => Ext w58 w_ ∧ f ≤ k ∧ ∀ j : Nat, j < f → el c (j : Int) ≠ el c (k : Int)) (fun f => k - f) 0 ⟨rfl, trivial⟩ ⟨Out.refl _ _ _, by omega, fun j hj => by omega⟩ ?_
  rintro f hav_ w61 ⟨ho62, hf, hne⟩
  have hlp1 := ho62
  have hz63 := ho62.size
  replace hL0 := hL0.ext ho62
  replace hL1 := hL1.ext ho62
  replace hE := hE.step ho62 (.inl (Nat.le_refl _))
  replace hN := hN.ext ho62
  replace hb5 := hb5.ext ho62
  replace hX := hX.ext ho62
  replace hD := hD.ext ho62
  replace hTr := hTr.ext ho62
  replace hP := hP.ext ho62
  replace hC := hC.ext ho62
  replace hlp0 := hlp0.step ho62 (.inl (Nat.le_refl _))
  refine wp_seq ?_
  refine wp_seq ?_
  refine rgD 8 (fun w_ => Ext w61 w_) (fun i => false) mixed (by kernel_rfl) ?_
  intro w64 ho65 hs66
  refine ⟨ho65, ?_⟩
  have hx67 := ho65
  refine tn rfl (fun _ hG => mvS rfl) ?_
  refine tn rfl (fun _ hG => mvI rfl) ?_
  refine tn rfl (fun _ hG => y_ix (hC.ext hG) sl22 rfl (rfl) rfl (by omega) (by omega)) ?_
  refine tn rfl (fun _ hG => y_le (hC.ext hG) na3 rfl (by omega) (by omega) rfl) ?_
  refine tn rfl (fun _ hG => mvS rfl) ?_
  refine tn rfl (fun _ hG => mvI rfl) ?_
  refine tn rfl (fun _ hG => y_ix (hC.ext hG) sl22 rfl (rfl) rfl (by omega) (by omega)) ?_
  refine tn rfl (fun _ hG => y_le (hC.ext hG) na3 rfl (by omega) (by omega) rfl) ?_
  refine t_end ?_
  have hz68 := hx67.size
  replace hL0 := hL0.ext hx67
  replace hL1 := hL1.ext hx67
  replace hE := hE.step hx67 (.inl (Nat.le_refl _))
  replace hN := hN.ext hx67
  replace hb5 := hb5.ext hx67
  replace hX := hX.ext hx67
  replace hD := hD.ext hx67
  replace hTr := hTr.ext hx67
  replace hP := hP.ext hx67
  replace hC := hC.ext hx67
  replace hlp0 := hlp0.step hx67 (.inl (Nat.le_refl _))
  replace hlp1 := hlp1.step hx67 (.inl (Nat.le_refl _))
  refine st (y_neq rfl rfl) ?_
  refine rg_end ?_
  refine n_then ?_
  refine cnd rfl (fun hc2 => ?_) (fun hc2 => ?_)
  ·
   try simp only [nm] at hc2
   have hfk : f ≠ k := fun e => hc2 (by rw [e])
   have hne1 : ∀ j : Nat, j < f + 1 → el c (j : Int) ≠ el c (k : Int) := fun j hj => by
     by_cases e : j = f
     · subst e; exact hc2
     · exact hne j (by omega)
   refine wp_skip ?_
   refine n_then ?_
   refine wp_block ?_
   refine rg ?_
   refine st (mvI rfl) ?_
   refine st (y_add rfl rfl (by omega)) ?_
   refine st (asI rfl) ?_
   refine rg_end ?_
   refine n_blk ?_
   exact n_then ⟨f + 1, _, rfl, same_lk rfl (same_h0), ⟨rfl, trivial⟩, ⟨hlp1, by omega, hne1⟩, by first | omega | (dsimp only; omega)⟩
  ·
   try simp only [nm] at hc2
   obtain ⟨hf1, hf2⟩ := first_of (con_eqk _) hcc (by omega) hf hc2 hne
   rw [← fo_con hfo] at hf1 hf2
   have hval := pot_shift hok hfo.mem hpo hf1 (by omega) (by omega) hf2
   have hx1 := hxr _ (el_mem (l := x) (i := (k : Int)) (by omega) (by omega))
   have hx2 := hxr _ (el_mem (l := x) (i := (f : Int)) (by omega) (by omega))
   refine wp_exit ?_
   refine e_then (e_then (e_blk (?_)))
   refine n_then ?_
   refine wp_seq ?_
   refine rgD 16 (fun w_ => Ext w64 w_) (fun i => Nat.beq i 15) mixed (by kernel_rfl) ?_
   intro w69 ho70 hs71
   refine ⟨ho70, ?_⟩
   have hx72 := ho70
   refine tn rfl (fun _ hG => mvS rfl) ?_
   refine tn rfl (fun _ hG => mvI rfl) ?_
   refine tn rfl (fun _ hG => y_ix (hP.ext hG) sl22 rfl (rfl) rfl (by omega) (by omega)) ?_
   refine tn rfl (fun _ hG => y_le (hP.ext hG) na3 rfl (by omega) (by omega) rfl) ?_
   refine tn rfl (fun _ hG => mvS rfl) ?_
   refine tn rfl (fun _ hG => mvI rfl) ?_
   refine tn rfl (fun _ hG => y_ix (hX.ext hG) sl22 rfl (rfl) rfl (by omega) (by omega)) ?_
   refine tn rfl (fun _ hG => y_le (hX.ext hG) na3 rfl (by omega) (by omega) rfl) ?_
   refine tn rfl (fun _ hG => mvS rfl) ?_
   refine tn rfl (fun _ hG => mvI rfl) ?_
   refine tn rfl (fun _ hG => y_ix (hX.ext hG) sl22 rfl (rfl) rfl (by omega) (by omega)) ?_
   refine tn rfl (fun _ hG => y_le (hX.ext hG) na3 rfl (by omega) (by omega) rfl) ?_
   refine tn rfl (fun _ hG => y_sub rfl rfl (by omega)) ?_
   refine tn rfl (fun _ hG => y_fld fld26_0 rfl) ?_
   refine tn rfl (fun _ hG => y_lb (hb5.ext hG) na3 rfl rfl) ?_
   refine tc rfl cl17 (ref1_Mod_ok _ _ _ (by omega) (by omega) (by omega)) rfl ?_
   rintro v77 w73 ⟨rfl, ho74⟩
   have hx78 := hx72.step ho74 (.inl (Nat.le_refl _))
   have hz79 := ho74.size
   refine ⟨hx78, ?_⟩
   refine t_end ?_
   have hz80 := hx78.size
   replace hL0 := hL0.ext hx78
   replace hL1 := hL1.ext hx78
   replace hE := hE.step hx78 (.inl (Nat.le_refl _))
   replace hN := hN.ext hx78
   replace hb5 := hb5.ext hx78
   replace hX := hX.ext hx78
   replace hD := hD.ext hx78
   replace hTr := hTr.ext hx78
   replace hP := hP.ext hx78
   replace hC := hC.ext hx78
   replace hlp0 := hlp0.step hx78 (.inl (Nat.le_refl _))
   refine st (y_neq rfl rfl) ?_
   refine rg_end ?_
   refine n_then ?_
   refine cnd rfl (fun hc3 => absurd ((decide_eq_false (not_not_intro hval)).symm.trans hc3) (by decide)) (fun hc3 => ?_)
   refine wp_skip ?_
   refine n_blk ?_
   refine n_then ?_
   refine rg ?_
   refine st (y_add rfl rfl (by omega)) ?_
   refine st (mvI rfl) ?_
   refine rg_end ?_
   exact n_then ⟨k + 1, _, rfl, same_lk rfl (same_hav rfl (same_lk rfl (same_h0))), ⟨rfl, trivial⟩, ⟨hlp0, by omega⟩, by first | omega | (dsimp only; omega)⟩
 ·
  try simp only [nm] at hc1
  refine wp_exit ?_
  refine e_then (e_then (e_blk (?_)))
  refine n_then ?_
  refine wp_seq ?_
  refine rg ?_
  refine st (asB rfl) ?_
  refine rg_end ?_
  refine n_then ?_
  refine wp_ret ?_
  refine ret1 (v := (.bool _)) Try.results8 rfl ?_
  exact ⟨rfl, hE⟩
end Go.Proofs.Ytdgkaahghlbocaa
