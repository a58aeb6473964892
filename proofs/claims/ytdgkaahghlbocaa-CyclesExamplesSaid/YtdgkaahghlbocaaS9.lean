/-
  Walks of the functions, printed by a program out of the code and the loops' relations.
-/
import Derived.Test.YtdgkaahghlbocaaWkD
import Derived.Test.YtdgkaahghlbocaaProg
import Derived.KernelRfl
import Derived.Test.YtdgkaahghlbocaaS8
namespace Go.Proofs.Ytdgkaahghlbocaa
open Go.Wk Go.RowKit
set_option linter.unusedVariables false
set_option linter.unusedSimpArgs false
theorem bsl22_3 (a0 : Int) (a1 : Int) (a2 : Int) (w : World) : (Instr.buildSlice 22 3 [(0, (.int .i64 a0)), (1, (.int .i64 a1)), (2, (.int .i64 a2))].toArray).run Try.prog w = .ok (.slice (some ⟨w.heap.size, 0, none⟩) 3 3) (w.alloc (.cells [(.int .i64 a0), (.int .i64 a1), (.int .i64 a2)].toArray 3)) := by kernel_rfl
theorem cl27 : Callable Try.prog 27 := ⟨Try.call27⟩
theorem cl28 : Callable Try.prog 28 := ⟨Try.call28⟩
theorem cl30 : Callable Try.prog 30 := ⟨Try.call30⟩
theorem cl33 : Callable Try.prog 33 := ⟨Try.call33⟩

theorem comp_same {n : Nat} {K : Int → Int → Bool} {c : List Int} (hK : EqK K) (h : CompTo n K n c) {x y : Int} (x0 : 0 ≤ x) (x1 : x < n) (y0 : 0 ≤ y) (y1 : y < n) (hxy : K x y = true) : el c x = el c y := by
  obtain ⟨a, rfl⟩ := Int.eq_ofNat_of_zero_le x0
  obtain ⟨b, rfl⟩ := Int.eq_ofNat_of_zero_le y0
  rcases Nat.lt_trichotomy a b with q | q | q
  · exact (h.again b a (by omega) q hxy).symm
  · rw [q]
  · exact h.again a b (by omega) q (hK.symm _ _ hxy)
theorem fo_count {N : Net} {tree : List Int} (h : FoOk N tree) : tree.length + cntF (conB N.acts) N.evs.length = N.evs.length := by
  have hin : ∀ a ∈ tree.map (el N.acts), AcIn N.evs.length a := fun a ha => by
    obtain ⟨x, hx, rfl⟩ := List.mem_map.1 ha
    have hr := h.mem x hx
    have ok := h.ok.acs _ (el_mem hr.1 hr.2)
    exact ⟨ok.f0, ok.f1, ok.t0, ok.t1⟩
  obtain ⟨P, R, _, _, h3⟩ := uf_ex hin (tree.map (el N.acts)).length (Nat.le_refl _)
  rw [List.take_length, fo_con h, newC_of _ (fun q hq => by
    rw [List.length_map] at hq
    rw [← List.map_take, elMapT (by omega) (by omega)]; exact h.a.new q hq), List.length_map] at h3
  omega
theorem tri_ok2 : FoOk trN [0, 1] := by
  refine ⟨netOk_iff.1 (by kernel_rfl), ⟨fun q hq => ?_, fun q hq => ?_, fun q hq => ?_⟩, fun i hi => ?_⟩
  · match q, hq with
    | 0, _ => decide
    | 1, _ => decide
  · match q, hq with
    | 0, _ => decide
  · match q, hq with
    | 0, _ => decide
    | 1, _ => decide
  · match i, hi with
    | 0, _ => decide
    | 1, _ => decide
    | 2, _ => decide
theorem tri_tr : trX trN = [0, 1] := by decide +kernel
theorem tri_fun {l : List (List Int × List Int)} (h : FunR trN [0, 1] trN.acts.length l) : l = [([2, 1, 0], [1, -1, -1])] :=
  h.uniq tri_ok2.a ⟨by decide, fun j hj => by
    match j, hj with
    | 0, _ => exact ⟨[(1, -1), (0, -1)], ⟨by decide, .inr rfl, by decide, by decide, .inr rfl, by decide, (show cyEn trN 0 (-1) = (el trN.acts (el (nonT [0, 1] trN.acts.length) ((0 : Nat) : Int))).fr from by decide)⟩, by decide, by decide⟩⟩

set_option maxHeartbeats 4000000 in
set_option maxRecDepth 100000 in
theorem law12_CyclesComponents_ok (a0 : Option Addr) (c0 : Nat) (l0 : List Int) (w : World) (hL0 : Ints 0 w.heap.size w a0 l0) (hl0 : (l0.length : Int) ≤ 9223372036854775807) : Cal Try.prog 6 [.slice a0 l0.length c0] w (fun v w' => v = .bool true ∧ Ext w w') := by
 have hE : Out 0 0 w w := Out.refl _ _ w
 refine enter Try.func6 rfl Try.ntmps6 rfl ?_
 refine wp_seq ?_
 refine rg ?_
 refine st (asB rfl) ?_
 refine rg_end ?_
 refine n_then ?_
 refine wp_seq ?_
 refine rg ?_
 refine st (mvS rfl) ?_
 refine sc cl12 (keep_Network_ok _ _ _ _ _ _ hL0 hl0) rfl ?_
 rintro v5 w1 ⟨N, A, rfl, hsm, hev, hac, hdis, ho2⟩
 have hN : NetIn _ _ _ N A := ⟨Ow.sl hev, Ow.sl hac⟩
 clear hev hac
 have hok := hsm.1
 have hev1 := hok.ev
 have hac8 := hsm.2.2.2.2.2.1
 have hp2 := hsm.2.1
 have hp9 := hsm.2.2.1
 have hz6 := ho2.size
 replace hL0 := hL0.ext ho2
 replace hE := hE.step ho2 (.inl (Nat.le_refl _))
 refine sd (d_allocA zer26 ?_)
 intro b3 w7 hbb3 hs9 ho8 hb3
 have hz10 := ho8.size
 replace hL0 := hL0.ext ho8
 replace hE := hE.step ho8 (.inl (Nat.le_refl _))
 replace hN := hN.ext ho8
 refine sd0 (d_stN hb3 rfl rfl sz26 rfl rfl ?_)
 intro w11 hs13 ho12 hb3'
 clear hb3; have hb3 := hb3'; clear hb3'
 have hz14 := ho12.size
 replace hL0 := hL0.out ho12 (by first | omega | (simp only [blk_some, hi1_some] at *; omega))
 replace hE := hE.step ho12 (by first | omega | (simp only [blk_some, hi1_some] at *; omega))
 replace hN := hN.out ho12 (by first | omega | (simp only [blk_some, hi1_some] at *; omega))
 refine rg_end ?_
 refine n_then ?_
 refine wp_seq ?_
 refine rgD 3 (fun w_ => Ext w11 w_) (fun i => Nat.beq i 1) mixed (by kernel_rfl) ?_
 intro w15 ho16 hs17
 refine ⟨ho16, ?_⟩
 have hx18 := ho16
 refine tn rfl (fun _ hG => y_lbN (hb3.ext hG) agg26 rfl) ?_
 refine tc rfl cl27 (cycles_Components_ok N A _ _ _ (hN.ext hx18)) rfl ?_
 rintro v23 w19 ⟨ac_, cc_, c, rfl, hC, _, hcc, ho20⟩
 replace hcc := hcc (netOk_iff.2 hok)
 have hcl := hcc.len
 have hx24 := hx18.step ho20 (.inl (Nat.le_refl _))
 have hz25 := ho20.size
 refine ⟨hx24, ?_⟩
 refine tn rfl (fun _ hG => y_lbN (hb3.ext hG) agg26 rfl) ?_
 refine t_end ?_
 have hz26 := hx24.size
 replace hL0 := hL0.ext hx24
 replace hE := hE.step hx24 (.inl (Nat.le_refl _))
 replace hN := hN.ext hx24
 replace hb3 := hb3.ext hx24
 refine sc cl28 (cycles_Tree_ok N A _ _ _ hN) rfl ?_
 rintro v31 w27 ⟨at1, ct1, tr, rfl, hTr, _, htr, htl, htc, ho28⟩
 obtain ⟨rfl, hfo⟩ := htr (netOk_iff.2 hok)
 have hz32 := ho28.size
 replace hL0 := hL0.ext ho28
 replace hE := hE.step ho28 (.inl (Nat.le_refl _))
 replace hN := hN.ext ho28
 replace hb3 := hb3.ext ho28
 replace hC := hC.ext ho28
 refine st (asS rfl) ?_
 refine st (asS rfl) ?_
 refine rg_end ?_
 refine n_then ?_
 refine wp_seq ?_
 refine wp_seq ?_
 refine rg ?_
 refine sc cl19 (law12_awake_ok _) rfl ?_
 rintro v37 w33 ⟨rfl, ho34⟩
 have hz38 := ho34.size
 replace hL0 := hL0.ext ho34
 replace hE := hE.step ho34 (.inl (Nat.le_refl _))
 replace hN := hN.ext ho34
 replace hb3 := hb3.ext ho34
 replace hC := hC.ext ho34
 replace hTr := hTr.ext ho34
 refine st (y_not rfl) ?_
 refine st (mvB rfl) ?_
 refine stg rfl rfl rfl (mvS rfl) ?_
 refine stg rfl rfl rfl (y_len Try.underlying22 rfl) ?_
 refine stg rfl rfl rfl (y_fld fld26_1 rfl) ?_
 refine stg rfl rfl rfl (y_lb hb3 na23 rfl rfl) ?_
 refine stg rfl rfl rfl (y_len Try.underlying23 rfl) ?_
 refine stg rfl rfl rfl (y_neq rfl rfl) ?_
 refine st (y_pickF rfl rfl (v := .bool _) rfl) ?_
 refine st (mvB rfl) ?_
 refine stg rfl rfl (decide_eq_false (not_not_intro (congrArg Int.ofNat hcl))) (y_lbN hb3 agg26 rfl) ?_
 refine stg rfl rfl (decide_eq_false (not_not_intro (congrArg Int.ofNat hcl))) (mvS rfl) ?_
 refine scg rfl rfl (decide_eq_false (not_not_intro (congrArg Int.ofNat hcl))) cl29 (ref11_Forest_ok N A _ _ (trX N) _ _ _ _ _ hN hTr (by omega)) rfl ?_
 rintro v43 w39 ⟨b, rfl, hb, ho40⟩
 have hbt : b = true := hb.2 hfo
 have hz44 := ho40.size
 replace hL0 := hL0.ext ho40
 replace hE := hE.step ho40 (.inl (Nat.le_refl _))
 replace hN := hN.ext ho40
 replace hb3 := hb3.ext ho40
 replace hC := hC.ext ho40
 replace hTr := hTr.ext ho40
 refine stg rfl rfl (decide_eq_false (not_not_intro (congrArg Int.ofNat hcl))) (y_not rfl) ?_
 refine st (y_pickF rfl (decide_eq_false (not_not_intro (congrArg Int.ofNat hcl))) (v := .bool _) rfl) ?_
 refine rg_end ?_
 refine n_then ?_
 refine cnd rfl (fun hc0 => absurd ((congrArg Bool.not hbt).symm.trans hc0) (by decide)) (fun hc0 => ?_)
 refine wp_skip ?_
 refine n_then ?_
 refine wp_seq ?_
 refine rg ?_
 refine st (asI rfl) ?_
 refine rg_end ?_
 refine n_then ?_
 refine wp_seq ?_
 refine wp_seq ?_
 refine rg ?_
 refine st (mvS rfl) ?_
 refine st (y_len Try.underlying22 rfl) ?_
 refine st (mvI rfl) ?_
 refine rg_end ?_
 refine n_then ?_
 refine wp_block ?_
 refine lp (γ := Nat) [2, 6, 7, 33, 34, 35, 36, 37, 38, 39, 40, 41, 42, 43, 44, 45, 46, 47, 48, 49, 50, 51, 52, 53, 54, 55, 56, 57] (fun k => [(33, .int .i64 (k : Int)), (6, .int .i64 ((cntF (conB N.acts) k : Nat) : Int))]) (fun k w_ => Ext w39 w_ ∧ k ≤ N.evs.length) (fun k => N.evs.length - k) 0 ⟨rfl, rfl, trivial⟩ ⟨Out.refl _ _ _, by omega⟩ ?_
 rintro k hav_ w45 ⟨ho46, hk⟩
 have hlp0 := ho46
 have hz47 := ho46.size
 replace hL0 := hL0.ext ho46
 replace hE := hE.step ho46 (.inl (Nat.le_refl _))
 replace hN := hN.ext ho46
 replace hb3 := hb3.ext ho46
 replace hC := hC.ext ho46
 replace hTr := hTr.ext ho46
 refine wp_seq ?_
 refine rg ?_
 refine st (y_lss rfl rfl) ?_
 refine rg_end ?_
 refine n_then ?_
 refine wp_seq ?_
 refine cnd rfl (fun hc1 => ?_) (fun hc1 => ?_)
 ·
  try simp only [nm] at hc1
  have hlt := hcc.lt k (by omega)
  have hfi := hcc.isFirst (i := k) (by omega)
  have hcs0 := cntF_succ (conB N.acts) k
  have hle2 : cntF (conB N.acts) (k + 1) ≤ cntF (conB N.acts) k + 1 := by rw [hcs0]; split <;> omega
  refine wp_skip ?_
  refine n_then ?_
  refine wp_seq ?_
  refine wp_block ?_
  refine wp_seq ?_
  refine rg ?_
  refine st (mvI rfl) ?_
  refine st (asI rfl) ?_
  refine rg_end ?_
  refine n_then ?_
  refine wp_seq ?_
  refine wp_seq ?_
  refine rg ?_
  refine st (mvS rfl) ?_
  refine st (mvI rfl) ?_
  refine st (y_ix hC sl22 rfl (rfl) rfl (by omega) (by omega)) ?_
  refine st (y_le hC na3 rfl (by omega) (by omega) rfl) ?_
  refine st (mvI rfl) ?_
  refine st (y_gtr rfl rfl) ?_
  refine st (mvB rfl) ?_
  refine stg rfl rfl (decide_eq_false (by omega)) (mvS rfl) ?_
  refine stg rfl rfl (decide_eq_false (by omega)) (mvI rfl) ?_
  refine stg rfl rfl (decide_eq_false (by omega)) (y_ix hC sl22 rfl (rfl) rfl (by omega) (by omega)) ?_
  refine stg rfl rfl (decide_eq_false (by omega)) (y_le hC na3 rfl (by omega) (by omega) rfl) ?_
  refine stg rfl rfl (decide_eq_false (by omega)) (y_lss rfl rfl) ?_
  refine st (y_pickF rfl (decide_eq_false (by omega)) (v := .bool _) rfl) ?_
  refine rg_end ?_
  refine n_then ?_
  refine cnd rfl (fun hc2 => absurd ((decide_eq_false (by omega)).symm.trans hc2) (by decide)) (fun hc2 => ?_)
  refine wp_skip ?_
  refine n_then ?_
  refine wp_seq ?_
  refine rg ?_
  refine st (mvS rfl) ?_
  refine st (mvI rfl) ?_
  refine st (y_ix hC sl22 rfl (rfl) rfl (by omega) (by omega)) ?_
  refine st (y_le hC na3 rfl (by omega) (by omega) rfl) ?_
  refine st (mvI rfl) ?_
  refine st (y_eql rfl rfl) ?_
  refine rg_end ?_
  refine n_then ?_
  refine cnd rfl (fun hc3 => ?_) (fun hc3 => ?_)
  ·
   try simp only [nm] at hc3
   have hcs : ((cntF (conB N.acts) (k + 1) : Nat) : Int) = cntF (conB N.acts) k + 1 := by rw [hcs0, if_pos (hfi.1 hc3)]; omega
   refine rg ?_
   refine st (mvI rfl) ?_
   refine st (y_add rfl rfl (by have := cntF_le (conB N.acts) k; omega)) ?_
   refine st (asI rfl) ?_
   refine rg_end ?_
   refine n_blk ?_
   refine n_then ?_
   refine rg ?_
   refine st (y_add rfl rfl (by omega)) ?_
   refine st (mvI rfl) ?_
   refine rg_end ?_
   exact n_then ⟨k + 1, _, rfl, same_lk rfl (same_h0), ⟨rfl, vi (by omega), trivial⟩, ⟨hlp0, by omega⟩, by first | omega | (dsimp only; omega)⟩
  ·
   try simp only [nm] at hc3
   have hcs : ((cntF (conB N.acts) (k + 1) : Nat) : Int) = cntF (conB N.acts) k := by rw [hcs0, if_neg (fun h => hc3 (hfi.2 h))]; omega
   refine wp_skip ?_
   refine n_blk ?_
   refine n_then ?_
   refine rg ?_
   refine st (y_add rfl rfl (by omega)) ?_
   refine st (mvI rfl) ?_
   refine rg_end ?_
   exact n_then ⟨k + 1, _, rfl, same_lk rfl (same_h0), ⟨rfl, vi (by omega), trivial⟩, ⟨hlp0, by omega⟩, by first | omega | (dsimp only; omega)⟩
 ·
  try simp only [nm] at hc1
  have hkn : k = N.evs.length := by omega
  subst hkn
  have hcnt := fo_count hfo
  refine wp_exit ?_
  refine e_then (e_then (e_blk (?_)))
  refine n_then ?_
  refine wp_seq ?_
  refine wp_seq ?_
  refine rg ?_
  refine st (y_fld fld26_2 rfl) ?_
  refine st (y_lb hb3 na24 rfl rfl) ?_
  refine st (y_len Try.underlying24 rfl) ?_
  refine st (mvI rfl) ?_
  refine rg_end ?_
  refine n_then ?_
  refine wp_block ?_
  refine lp (γ := Nat) [2, 8, 61, 62, 63, 64, 65, 66, 67, 68, 69, 70, 71, 72, 73, 74, 75, 76, 77, 78, 79, 80, 81, 82, 83] (fun k => [(61, .int .i64 (k : Int))]) (fun k w_ => Ext w45 w_ ∧ (k : Int) ≤ N.acts.length) (fun k => N.acts.length - k) 0 ⟨rfl, trivial⟩ ⟨Out.refl _ _ _, by omega⟩ ?_
  rintro k hav_ w48 ⟨ho49, hk⟩
  have hlp1 := ho49
  have hz50 := ho49.size
  replace hL0 := hL0.ext ho49
  replace hE := hE.step ho49 (.inl (Nat.le_refl _))
  replace hN := hN.ext ho49
  replace hb3 := hb3.ext ho49
  replace hC := hC.ext ho49
  replace hTr := hTr.ext ho49
  refine wp_seq ?_
  refine rg ?_
  refine st (y_lss rfl rfl) ?_
  refine rg_end ?_
  refine n_then ?_
  refine wp_seq ?_
  refine cnd rfl (fun hc4 => ?_) (fun hc4 => ?_)
  ·
   try simp only [nm] at hc4
   have hmk := el_mem (l := N.acts) (i := (k : Int)) (by omega) hc4
   have ha := hok.acs _ hmk
   have hf0 := ha.f0
   have hf1 := ha.f1
   have ht0 := ha.t0
   have ht1 := ha.t1
   have hsame := comp_same (con_eqk _) hcc hf0 hf1 ht0 ht1 (con_mem hmk)
   refine wp_skip ?_
   refine n_then ?_
   refine wp_seq ?_
   refine wp_block ?_
   refine wp_seq ?_
   refine rg ?_
   refine st (mvI rfl) ?_
   refine st (asI rfl) ?_
   refine rg_end ?_
   refine n_then ?_
   refine wp_seq ?_
   refine rgD 18 (fun w_ => Ext w48 w_) (fun i => false) mixed (by kernel_rfl) ?_
   intro w51 ho52 hs53
   refine ⟨ho52, ?_⟩
   have hx54 := ho52
   refine tn rfl (fun _ hG => mvS rfl) ?_
   refine tn rfl (fun _ hG => y_fld fld26_2 rfl) ?_
   refine tn rfl (fun _ hG => y_lb (hb3.ext hG) na24 rfl rfl) ?_
   refine tn rfl (fun _ hG => mvI rfl) ?_
   refine tn rfl (fun _ hG => y_ix (hN.a.ext hG) sl24 rfl (rfl) rfl (by omega) (by omega)) ?_
   refine tn rfl (fun _ hG => y_fld fld43_1 rfl) ?_
   refine tn rfl (fun _ hG => y_lf (hN.a.ext hG) na3 rfl (by omega) (by omega) rfl) ?_
   refine tn rfl (fun _ hG => y_ix (hC.ext hG) sl22 rfl (rfl) rfl (by omega) (by omega)) ?_
   refine tn rfl (fun _ hG => y_le (hC.ext hG) na3 rfl (by omega) (by omega) rfl) ?_
   refine tn rfl (fun _ hG => mvS rfl) ?_
   refine tn rfl (fun _ hG => y_fld fld26_2 rfl) ?_
   refine tn rfl (fun _ hG => y_lb (hb3.ext hG) na24 rfl rfl) ?_
   refine tn rfl (fun _ hG => mvI rfl) ?_
   refine tn rfl (fun _ hG => y_ix (hN.a.ext hG) sl24 rfl (rfl) rfl (by omega) (by omega)) ?_
   refine tn rfl (fun _ hG => y_fld fld43_2 rfl) ?_
   refine tn rfl (fun _ hG => y_lf (hN.a.ext hG) na3 rfl (by omega) (by omega) rfl) ?_
   refine tn rfl (fun _ hG => y_ix (hC.ext hG) sl22 rfl (rfl) rfl (by omega) (by omega)) ?_
   refine tn rfl (fun _ hG => y_le (hC.ext hG) na3 rfl (by omega) (by omega) rfl) ?_
   refine t_end ?_
   have hz55 := hx54.size
   replace hL0 := hL0.ext hx54
   replace hE := hE.step hx54 (.inl (Nat.le_refl _))
   replace hN := hN.ext hx54
   replace hb3 := hb3.ext hx54
   replace hC := hC.ext hx54
   replace hTr := hTr.ext hx54
   replace hlp1 := hlp1.step hx54 (.inl (Nat.le_refl _))
   refine st (y_neq rfl rfl) ?_
   refine rg_end ?_
   refine n_then ?_
   refine cnd rfl (fun hc5 => absurd ((decide_eq_false (not_not_intro hsame)).symm.trans hc5) (by decide)) (fun hc5 => ?_)
   refine wp_skip ?_
   refine n_blk ?_
   refine n_then ?_
   refine rg ?_
   refine st (y_add rfl rfl (by omega)) ?_
   refine st (mvI rfl) ?_
   refine rg_end ?_
   exact n_then ⟨k + 1, _, rfl, same_lk rfl (same_h0), ⟨rfl, trivial⟩, ⟨hlp1, by omega⟩, by first | omega | (dsimp only; omega)⟩
  ·
   try simp only [nm] at hc4
   refine wp_exit ?_
   refine e_then (e_then (e_blk (?_)))
   refine n_then ?_
   refine wp_seq ?_
   refine rg ?_
   refine st (mvS rfl) ?_
   refine st (y_len Try.underlying22 rfl) ?_
   refine st (y_fld fld26_1 rfl) ?_
   refine st (y_lb hb3 na23 rfl rfl) ?_
   refine st (y_len Try.underlying23 rfl) ?_
   refine st (mvI rfl) ?_
   refine st (y_sub rfl rfl (by have := cntF_le (conB N.acts) N.evs.length; omega)) ?_
   refine st (y_eql rfl rfl) ?_
   refine st (asB rfl) ?_
   refine rg_end ?_
   refine n_then ?_
   refine wp_ret ?_
   refine ret1 (v := (.bool _)) Try.results6 rfl ?_
   exact ⟨vb (by simp; omega), hE⟩

set_option maxHeartbeats 2000000 in
set_option maxRecDepth 100000 in
theorem law12_CyclesExamples_ok (w : World) : Cal Try.prog 7 [] w (fun v w' => v = .bool true ∧ Ext w w') := by
 have hE : Out 0 0 w w := Out.refl _ _ w
 refine enter Try.func7 rfl Try.ntmps7 rfl ?_
 refine wp_seq ?_
 refine rg ?_
 refine st (asB rfl) ?_
 refine rg_end ?_
 refine n_then ?_
 refine wp_seq ?_
 refine rg ?_
 refine sc cl31 (law12_triangle_ok _) rfl ?_
 rintro v5 w1 ⟨A0, rfl, hN0, ho2⟩
 have hz6 := ho2.size
 replace hE := hE.step ho2 (.inl (Nat.le_refl _))
 refine sd (d_bs (bsl22_2 _ _ _) rfl ?_)
 intro s0 w7 hbs0 hs9 ho8 hs0
 have hs0 : Sl Wk.encI 1 s0 (s0 + 1) w7 (some ⟨s0, 0, none⟩) [(0 : Int), 1] := Blk.sl (l := [(0 : Int), 1]) hs0 (fun _ => rfl) (Nat.le_refl _) (Nat.lt_succ_self _)
 have hz10 := ho8.size
 replace hE := hE.step ho8 (.inl (Nat.le_refl _))
 replace hN0 := hN0.ext ho8
 refine sc cl30 (cycles_Fundamental_ok trN A0 _ _ [0, 1] _ _ _ _ _ hN0 hs0 (by decide)) rfl ?_
 rintro v15 w11 ⟨ac, cc, l, e, rfl, hC, hall, hll, _, q2, ho12⟩
 obtain ⟨rfl, hfr⟩ := q2 tri_ok2
 have hlp := tri_fun hfr
 have hln : ∀ r ∈ l, (r.arcs.length : Int) ≤ 1000000 ∧ (r.signs.length : Int) ≤ 1000000 := fun r hr => by
   have h1 := (hall r hr).1
   have h2 := cy_len h1
   have h3 := h1.len
   have h4 : trN.acts.length = 3 := rfl
   omega
 have hz16 := ho12.size
 replace hE := hE.step ho12 (.inl (Nat.le_refl _))
 replace hN0 := hN0.ext ho12
 replace hs0 := hs0.ext ho12
 refine st (mvT rfl) ?_
 refine st (y_ext rfl rfl) ?_
 refine st (y_ext rfl rfl) ?_
 refine st (asS rfl) ?_
 refine st (asI rfl) ?_
 refine rg_end ?_
 refine n_then ?_
 refine wp_seq ?_
 refine rg ?_
 refine sc cl31 (law12_triangle_ok _) rfl ?_
 rintro v21 w17 ⟨A1, rfl, hN1, ho18⟩
 have hz22 := ho18.size
 replace hE := hE.step ho18 (.inl (Nat.le_refl _))
 replace hN0 := hN0.ext ho18
 replace hs0 := hs0.ext ho18
 replace hC := hC.ext ho18
 refine sc cl28 (cycles_Tree_ok trN A1 _ _ _ hN1) rfl ?_
 rintro v27 w23 ⟨at1, ct1, tr, rfl, hTr, _, htr, htl, htc, ho24⟩
 obtain ⟨rfl, _⟩ := htr (by kernel_rfl)
 have hz28 := ho24.size
 replace hE := hE.step ho24 (.inl (Nat.le_refl _))
 replace hN0 := hN0.ext ho24
 replace hs0 := hs0.ext ho24
 replace hC := hC.ext ho24
 replace hN1 := hN1.ext ho24
 refine sd (d_bs (bsl22_2 _ _ _) rfl ?_)
 intro s1 w29 hbs1 hs31 ho30 hs1
 have hs1 : Sl Wk.encI 1 s1 (s1 + 1) w29 (some ⟨s1, 0, none⟩) [(0 : Int), 1] := Blk.sl (l := [(0 : Int), 1]) hs1 (fun _ => rfl) (Nat.le_refl _) (Nat.lt_succ_self _)
 have hz32 := ho30.size
 replace hE := hE.step ho30 (.inl (Nat.le_refl _))
 replace hN0 := hN0.ext ho30
 replace hs0 := hs0.ext ho30
 replace hC := hC.ext ho30
 replace hN1 := hN1.ext ho30
 replace hTr := hTr.ext ho30
 refine sc cl32 (keep_Same_int_ok (trX trN) [0, 1] _ _ _ _ _ _ _ _ _ hTr hs1 (by omega)) rfl ?_
 rintro v37 w33 ⟨rfl, ho34⟩
 have hz38 := ho34.size
 replace hE := hE.step ho34 (.inl (Nat.le_refl _))
 replace hN0 := hN0.ext ho34
 replace hs0 := hs0.ext ho34
 replace hC := hC.ext ho34
 replace hN1 := hN1.ext ho34
 replace hTr := hTr.ext ho34
 replace hs1 := hs1.ext ho34
 refine st (mvB rfl) ?_
 refine stg rfl rfl (decide_eq_true tri_tr) (mvI rfl) ?_
 refine stg rfl rfl (decide_eq_true tri_tr) (y_eql rfl rfl) ?_
 refine st (y_pickT rfl (decide_eq_true tri_tr) (v := .bool _) rfl) ?_
 refine st (mvB rfl) ?_
 refine stg rfl rfl (decide_eq_true rfl) (mvS rfl) ?_
 refine sdg rfl rfl (decide_eq_true rfl) (d_bs (bsl22_3 _ _ _ _) rfl ?_)
 intro x1 w39 hbx1 hs41 ho40 hx1
 have hx1 : Sl Wk.encI 1 x1 (x1 + 1) w39 (some ⟨x1, 0, none⟩) [(2 : Int), 1, 0] := Blk.sl (l := [(2 : Int), 1, 0]) hx1 (fun _ => rfl) (Nat.le_refl _) (Nat.lt_succ_self _)
 have hz42 := ho40.size
 replace hE := hE.step ho40 (.inl (Nat.le_refl _))
 replace hN0 := hN0.ext ho40
 replace hs0 := hs0.ext ho40
 replace hC := hC.ext ho40
 replace hN1 := hN1.ext ho40
 replace hTr := hTr.ext ho40
 replace hs1 := hs1.ext ho40
 refine sdg rfl rfl (decide_eq_true rfl) (d_bs (bsl22_3 _ _ _ _) rfl ?_)
 intro x2 w43 hbx2 hs45 ho44 hx2
 have hx2 : Sl Wk.encI 1 x2 (x2 + 1) w43 (some ⟨x2, 0, none⟩) [(1 : Int), -1, -1] := Blk.sl (l := [(1 : Int), -1, -1]) hx2 (fun _ => rfl) (Nat.le_refl _) (Nat.lt_succ_self _)
 have hz46 := ho44.size
 replace hE := hE.step ho44 (.inl (Nat.le_refl _))
 replace hN0 := hN0.ext ho44
 replace hs0 := hs0.ext ho44
 replace hC := hC.ext ho44
 replace hN1 := hN1.ext ho44
 replace hTr := hTr.ext ho44
 replace hs1 := hs1.ext ho44
 replace hx1 := hx1.ext ho44
 refine stg rfl rfl (decide_eq_true rfl) (y_build (bld37_0_1 _ _ _ _ _ _ _) rfl) ?_
 refine sdg rfl rfl (decide_eq_true rfl) (d_bs (bsl30_1 _ _ _ _ _ _ _) rfl ?_)
 intro x3 w47 hbx3 hs49 ho48 hx3
 have hx3 : Sl encCy 2 x3 (x3 + 1) w47 (some ⟨x3, 0, none⟩) [(⟨some ⟨x1, 0, none⟩, 3, [2, 1, 0], some ⟨x2, 0, none⟩, 3, [1, -1, -1]⟩ : Cyc)] := Blk.sl (l := [(⟨some ⟨x1, 0, none⟩, 3, [2, 1, 0], some ⟨x2, 0, none⟩, 3, [1, -1, -1]⟩ : Cyc)]) hx3 (fun _ => rfl) (Nat.le_refl _) (Nat.lt_succ_self _)
 have hz50 := ho48.size
 replace hE := hE.step ho48 (.inl (Nat.le_refl _))
 replace hN0 := hN0.ext ho48
 replace hs0 := hs0.ext ho48
 replace hC := hC.ext ho48
 replace hN1 := hN1.ext ho48
 replace hTr := hTr.ext ho48
 replace hs1 := hs1.ext ho48
 replace hx1 := hx1.ext ho48
 replace hx2 := hx2.ext ho48
 refine scg rfl rfl (decide_eq_true rfl) cl33 (keep_SameCycles_ok l [(⟨some ⟨x1, 0, none⟩, 3, [2, 1, 0], some ⟨x2, 0, none⟩, 3, [1, -1, -1]⟩ : Cyc)] _ _ _ _ _ _ _ _ _ hC ⟨Sl.full (fun _ => by simp [encCy]) hx3, fun r hr => by rw [List.mem_singleton.1 hr]; exact ⟨Ints.full hx1, Ints.full hx2⟩⟩ (by omega) hln) rfl ?_
 rintro v55 w51 ⟨rfl, ho52⟩
 have hz56 := ho52.size
 replace hE := hE.step ho52 (.inl (Nat.le_refl _))
 replace hN0 := hN0.ext ho52
 replace hs0 := hs0.ext ho52
 replace hC := hC.ext ho52
 replace hN1 := hN1.ext ho52
 replace hTr := hTr.ext ho52
 replace hs1 := hs1.ext ho52
 replace hx1 := hx1.ext ho52
 replace hx2 := hx2.ext ho52
 replace hx3 := hx3.ext ho52
 refine st (y_pickT rfl (decide_eq_true rfl) (v := .bool _) rfl) ?_
 refine st (asB rfl) ?_
 refine rg_end ?_
 refine n_then ?_
 refine wp_ret ?_
 refine ret1 (v := (.bool _)) Try.results7 rfl ?_
 exact ⟨vb ⟨fun _ => rfl, fun _ => decide_eq_true hlp⟩, hE⟩
end Go.Proofs.Ytdgkaahghlbocaa
