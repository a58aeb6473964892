/-
  Walks of the functions, printed by a program out of the code and the loops' relations.
-/
import Derived.Test.YtclligkngjhihaaWkH
import Derived.Test.YtclligkngjhihaaProg
import Derived.KernelRfl
import Derived.Test.YtclligkngjhihaaK6
namespace Go.Proofs.Ytclligkngjhihaa
open Go.Wk Go.RowKit
set_option linter.unusedVariables false
set_option linter.unusedSimpArgs false
theorem fld58_0 : FieldOf Try.prog 58 0 0 := fun b o w => by simp [Instr.fieldAt, fieldPlace, Instr.sureAddr, Addr.add_lit]
theorem fld58_1 : FieldOf Try.prog 58 1 1 := fun b o w => by simp [Instr.fieldAt, fieldPlace, Instr.sureAddr, Addr.add_lit]

theorem elRange {g : Nat → Int} {k m : Nat} (h : k < m) : el ((List.range m).map g) (k : Int) = g k := by simp [el, h]
theorem mem_tk {l : List Int} {k : Nat} {x : Int} (h : x ∈ l.take k) : ∃ q : Nat, q < k ∧ el l (q : Int) = x := by
  obtain ⟨i, hi, e⟩ := List.getElem_of_mem h
  rw [List.length_take] at hi
  refine ⟨i, by omega, ?_⟩
  rw [List.getElem_take] at e
  have h2 : i < l.length := by omega
  simpa [el, h2] using e
theorem tk_mem {l : List Int} {k q : Nat} (hq : q < k) (hl : q < l.length) : el l (q : Int) ∈ l.take k := by
  have e : el l (q : Int) = (l.take k)[q]'(by rw [List.length_take]; omega) := by rw [List.getElem_take]; simp [el, hl]
  rw [e]; exact List.getElem_mem _
structure CyR (N : Net) (arcs signs : List Int) (k : Nat) : Prop where
  nxt : ∀ q : Nat, q < k → stK N arcs signs ((q + 1) % arcs.length) = enK N arcs signs q
  dist : ∀ i j : Nat, i < j → j < k → stK N arcs signs i ≠ stK N arcs signs j
theorem CyR.zero {N : Net} {arcs signs : List Int} : CyR N arcs signs 0 := ⟨fun q hq => by omega, fun i j hi hj => by omega⟩
theorem CyR.succ {N : Net} {arcs signs : List Int} {k : Nat} (h : CyR N arcs signs k) (h0 : stK N arcs signs ((k + 1) % arcs.length) = enK N arcs signs k) (hd : ∀ i : Nat, i < k → stK N arcs signs i ≠ stK N arcs signs k) : CyR N arcs signs (k + 1) := by
  refine ⟨fun q hq => ?_, fun i j hi hj => ?_⟩
  · by_cases e : q = k
    · subst e; exact h0
    · exact h.nxt q (by omega)
  · by_cases e : j = k
    · subst e; exact hd i hi
    · exact h.dist i j hi (by omega)
theorem CyR.toB {N : Net} {arcs signs : List Int} (h : CyR N arcs signs arcs.length) : CyB N arcs signs arcs.length := by
  refine ⟨fun h0 => ?_, fun q hq => ?_, h.dist⟩
  · have := h.nxt (arcs.length - 1) (by omega)
    rwa [show arcs.length - 1 + 1 = arcs.length by omega, Nat.mod_self] at this
  · have := h.nxt q (by omega)
    rwa [Nat.mod_eq_of_lt hq] at this
theorem cyb_nxt {N : Net} {arcs signs : List Int} (h : CyB N arcs signs arcs.length) {k : Nat} (hk : k < arcs.length) : stK N arcs signs ((k + 1) % arcs.length) = enK N arcs signs k := by
  by_cases e : k + 1 = arcs.length
  · rw [e, Nat.mod_self, h.close (by omega)]; congr 1; omega
  · rw [Nat.mod_eq_of_lt (by omega)]; exact h.join k (by omega)
theorem modN (a b : Nat) : Int.tmod ((a : Int) + 1) (b : Int) = (((a + 1) % b : Nat) : Int) := by
  rw [show ((a : Int) + 1) = ((a + 1 : Nat) : Int) by omega]; rfl

set_option maxHeartbeats 4000000 in
set_option maxRecDepth 100000 in
theorem ref11_CheckCycle_ok (N : Net) (A : NetA) (lo hi : Nat) (arcs signs : List Int) (aa : Option Addr) (ca la ha_ : Nat) (ag : Option Addr) (cg lg hg_ : Nat) (w : World) (hN : NetIn lo hi w N A) (hA : Ints la ha_ w aa arcs) (hca : arcs.length ≤ ca) (hSg : Ints lg hg_ w ag signs) (hn : (arcs.length : Int) ≤ 9223372036854775807)  : Cal Try.prog 52 [netV N A, .agg #[.slice aa arcs.length ca, .slice ag signs.length cg]] w (fun v w' => ∃ b, v = .bool b ∧ (b = true ↔ CyOk N arcs signs) ∧ Ext w w') := by
 replace hN := hN.full
 replace hA := Ints.full hA
 replace hSg := Ints.full hSg
 have hE : Out 0 0 w w := Out.refl _ _ w
 refine enter Try.func52 rfl Try.ntmps52 rfl ?_
 refine wp_seq ?_
 refine rg ?_
 refine sd (d_boxA rfl ?_)
 intro b2 w1 hbb2 hs3 ho2 hb2
 have hz4 := ho2.size
 replace hN := hN.ext ho2
 replace hA := hA.ext ho2
 replace hSg := hSg.ext ho2
 replace hE := hE.step ho2 (.inl (Nat.le_refl _))
 refine sd (d_boxA rfl ?_)
 intro b3 w5 hbb3 hs7 ho6 hb3
 have hz8 := ho6.size
 replace hN := hN.ext ho6
 replace hA := hA.ext ho6
 replace hSg := hSg.ext ho6
 replace hE := hE.step ho6 (.inl (Nat.le_refl _))
 replace hb2 := hb2.ext ho6
 refine st (asB rfl) ?_
 refine rg_end ?_
 refine n_then ?_
 refine wp_seq ?_
 refine wp_seq ?_
 refine rg ?_
 refine st (y_lbN hb2 agg26 rfl) ?_
 refine sc cl45 (ref11_Check_ok N A _ _ _ hN) rfl ?_
 rintro v13 w9 ⟨rfl, ho10⟩
 have hz14 := ho10.size
 replace hN := hN.ext ho10
 replace hA := hA.ext ho10
 replace hSg := hSg.ext ho10
 replace hE := hE.step ho10 (.inl (Nat.le_refl _))
 replace hb2 := hb2.ext ho10
 replace hb3 := hb3.ext ho10
 refine st (y_not rfl) ?_
 refine st (mvB rfl) ?_
 refine gspL 13 rfl (fun hg15 => ?_) (fun hg15 => ?_)
 ·
  have hg15n := hg15; try simp only [nm] at hg15n
  refine sts rfl rfl hg15 ?_
  refine sts rfl rfl hg15 ?_
  refine sts rfl rfl hg15 ?_
  refine sts rfl rfl hg15 ?_
  refine sts rfl rfl hg15 ?_
  refine sts rfl rfl hg15 ?_
  refine sts rfl rfl hg15 ?_
  refine st (y_pickT rfl hg15 (v := .bool _) rfl) ?_
  refine st (mvB rfl) ?_
  refine sts rfl rfl rfl ?_
  refine sts rfl rfl rfl ?_
  refine sts rfl rfl rfl ?_
  refine sts rfl rfl rfl ?_
  refine st (y_pickT rfl rfl (v := .bool _) rfl) ?_
  refine rg_end ?_
  refine n_then ?_
  refine cnd rfl (fun hc0 => ?_) (fun hc0 => absurd hc0 (by decide))
  have hno : ¬ CyOk N arcs signs := fun h => by
    have h1 := netOk_iff.2 h.ok
    have h2 := h.len
    have h3 := h.two
    first
    | omega
    | exact absurd h1 (by simp [*])
  refine wp_seq ?_
  refine rg ?_
  refine st (asB rfl) ?_
  refine rg_end ?_
  refine n_then ?_
  refine wp_ret ?_
  refine r_then (ret1 (v := (.bool _)) Try.results52 rfl ?_)
  exact ⟨false, rfl, ⟨fun h => (by cases h), fun h => absurd h hno⟩, hE⟩
 ·
  have hg15n := hg15; try simp only [nm] at hg15n
  refine stg rfl rfl hg15 (y_fld fld58_0 rfl) ?_
  refine stg rfl rfl hg15 (y_lb hb3 na22 rfl rfl) ?_
  refine stg rfl rfl hg15 (y_len Try.underlying22 rfl) ?_
  refine stg rfl rfl hg15 (y_fld fld58_1 rfl) ?_
  refine stg rfl rfl hg15 (y_lb hb3 na22 rfl rfl) ?_
  refine stg rfl rfl hg15 (y_len Try.underlying22 rfl) ?_
  refine stg rfl rfl hg15 (y_neq rfl rfl) ?_
  refine st (y_pickF rfl hg15 (v := .bool _) rfl) ?_
  refine st (mvB rfl) ?_
  refine gspL 22 rfl (fun hg16 => ?_) (fun hg16 => ?_)
  ·
   have hg16n := hg16; try simp only [nm] at hg16n
   refine sts rfl rfl hg16 ?_
   refine sts rfl rfl hg16 ?_
   refine sts rfl rfl hg16 ?_
   refine sts rfl rfl hg16 ?_
   refine st (y_pickT rfl hg16 (v := .bool _) rfl) ?_
   refine rg_end ?_
   refine n_then ?_
   refine cnd rfl (fun hc0 => ?_) (fun hc0 => absurd hc0 (by decide))
   have hno : ¬ CyOk N arcs signs := fun h => by
     have h1 := netOk_iff.2 h.ok
     have h2 := h.len
     have h3 := h.two
     first
     | omega
     | exact absurd h1 (by simp [*])
   refine wp_seq ?_
   refine rg ?_
   refine st (asB rfl) ?_
   refine rg_end ?_
   refine n_then ?_
   refine wp_ret ?_
   refine r_then (ret1 (v := (.bool _)) Try.results52 rfl ?_)
   exact ⟨false, rfl, ⟨fun h => (by cases h), fun h => absurd h hno⟩, hE⟩
  ·
   have hg16n := hg16; try simp only [nm] at hg16n
   refine stg rfl rfl hg16 (y_fld fld58_0 rfl) ?_
   refine stg rfl rfl hg16 (y_lb hb3 na22 rfl rfl) ?_
   refine stg rfl rfl hg16 (y_len Try.underlying22 rfl) ?_
   refine stg rfl rfl hg16 (y_lss rfl rfl) ?_
   refine st (y_pickF rfl hg16 (v := .bool _) rfl) ?_
   refine rg_end ?_
   refine n_then ?_
   refine cnd rfl (fun hc0 => ?_) (fun hc0 => ?_)
   ·
    try simp only [nm] at hc0
    have hno : ¬ CyOk N arcs signs := fun h => by
      have h1 := netOk_iff.2 h.ok
      have h2 := h.len
      have h3 := h.two
      first
      | omega
      | exact absurd h1 (by simp [*])
    refine wp_seq ?_
    refine rg ?_
    refine st (asB rfl) ?_
    refine rg_end ?_
    refine n_then ?_
    refine wp_ret ?_
    refine r_then (ret1 (v := (.bool _)) Try.results52 rfl ?_)
    exact ⟨false, rfl, ⟨fun h => (by cases h), fun h => absurd h hno⟩, hE⟩
   ·
    try simp only [nm] at hc0
    have hnk : netOk N = true := by assumption
    have hok := netOk_iff.1 hnk
    have hac := hok.ac
    have hev := hok.ev
    have hlen : arcs.length = signs.length := by omega
    refine wp_skip ?_
    refine n_then ?_
    refine wp_seq ?_
    refine rg ?_
    refine st (asS rfl) ?_
    refine st (asS rfl) ?_
    refine rg_end ?_
    refine n_then ?_
    refine wp_seq ?_
    refine wp_seq ?_
    refine rg ?_
    refine st (asI rfl) ?_
    refine rg_end ?_
    refine n_then ?_
    refine wp_block ?_
    obtain ⟨z1, hz1⟩ : ∃ z, z = w9.heap.size := ⟨_, rfl⟩
    refine lp (γ := Nat × List Int × List Int × Option Addr × Nat × Option Addr × Nat) [4, 5, 6, 7, 8, 28, 29, 30, 31, 32, 33, 34, 35, 36, 37, 38, 39, 40, 41, 42, 43, 44, 45, 46, 47, 48, 49, 50, 51, 52, 53, 54, 55, 56, 57, 58, 59, 60, 61, 62, 63, 64, 65, 66, 67, 68, 69, 70, 71, 72, 73, 74, 75, 76, 77, 78, 79, 80, 81, 82, 83, 84, 85, 86, 87, 88, 89, 90, 91, 92, 93, 94, 95, 96, 97, 98, 99, 100, 101, 102, 103, 104, 105, 106, 107, 108] (fun ⟨k, ss, es, as_, cs, ae, ce⟩ => [(7, .int .i64 (k : Int)), (5, .slice as_ ss.length cs), (6, .slice ae es.length ce)]) (fun ⟨k, ss, es, as_, cs, ae, ce⟩ w_ => Ext w9 w_ ∧ (k : Int) ≤ arcs.length ∧ CyA N arcs signs k ∧ ss = (List.range k).map (stK N arcs signs) ∧ es = (List.range k).map (enK N arcs signs) ∧ Ow 3 encI 1 z1 w_.heap.size w_ as_ cs ss ∧ Ow 3 encI 1 z1 w_.heap.size w_ ae ce es ∧ (hi1 as_ ≤ blk ae ∨ hi1 ae ≤ blk as_)) (fun ⟨k, ss, es, as_, cs, ae, ce⟩ => arcs.length - k) (0, [], [], none, 0, none, 0) ⟨rfl, rfl, rfl, trivial⟩ ⟨Out.refl _ _ _, by simp, CyA.zero, rfl, rfl, Ow.nil (fun _ => rfl), Ow.nil (fun _ => rfl), .inl (Nat.zero_le _)⟩ ?_
    rintro ⟨k, ss, es, as_, cs, ae, ce⟩ hav_ w17 ⟨ho18, hk, hca_, hss, hes, hSS, hES, hdj⟩
    have hlp0 := ho18
    have hz19 := ho18.size
    replace hN := hN.ext ho18
    replace hA := hA.ext ho18
    replace hSg := hSg.ext ho18
    replace hE := hE.step ho18 (.inl (Nat.le_refl _))
    replace hb2 := hb2.ext ho18
    replace hb3 := hb3.ext ho18
    refine wp_seq ?_
    refine wp_seq ?_
    refine rg ?_
    refine st (mvI rfl) ?_
    refine st (y_fld fld58_0 rfl) ?_
    refine st (y_lb hb3 na22 rfl rfl) ?_
    refine st (y_len Try.underlying22 rfl) ?_
    refine st (y_lss rfl rfl) ?_
    refine rg_end ?_
    refine n_then ?_
    refine cnd rfl (fun hc1 => ?_) (fun hc1 => ?_)
    ·
     try simp only [nm] at hc1
     have hAk := Sl.take hA k
     have hkb : k ≤ 512 := by have := inj_len (n := N.acts.length) k (fun q => el arcs (q : Int)) (fun q hq => ⟨(hca_.rng q hq).1, (hca_.rng q hq).2.1⟩) (fun i j hi hj => hca_.dist i j hi hj); omega
     have hsl : ss.length = k := by rw [hss]; simp
     have hel : es.length = k := by rw [hes]; simp
     refine wp_skip ?_
     refine n_then ?_
     refine wp_seq ?_
     refine wp_block ?_
     refine wp_seq ?_
     refine wp_seq ?_
     refine rgD 34 (fun w_ => Ext w17 w_) (fun i => Nat.beq i 9 || Nat.beq i 21) mixed (by kernel_rfl) ?_
     intro w20 ho21 hs22
     refine ⟨ho21, ?_⟩
     have hx23 := ho21
     refine tn rfl (fun _ hG => y_fld fld58_0 rfl) ?_
     refine tn rfl (fun _ hG => y_lb (hb3.ext hG) na22 rfl rfl) ?_
     refine tn rfl (fun _ hG => mvI rfl) ?_
     refine tn rfl (fun _ hG => y_ix (hA.ext hG) sl22 rfl (rfl) rfl (by omega) (by omega)) ?_
     refine tn rfl (fun _ hG => y_le (hA.ext hG) na3 rfl (by omega) (by omega) rfl) ?_
     refine tn rfl (fun _ hG => y_fld fld26_2 rfl) ?_
     refine tn rfl (fun _ hG => y_lb (hb2.ext hG) na24 rfl rfl) ?_
     refine tn rfl (fun _ hG => y_len Try.underlying24 rfl) ?_
     refine tn rfl (fun _ hG => y_sub rfl rfl (by omega)) ?_
     refine tc rfl cl65 (ref11_in_ok _ _ _ _) rfl ?_
     rintro v28 w24 ⟨rfl, ho25⟩
     have hx29 := hx23.step ho25 (.inl (Nat.le_refl _))
     have hz30 := ho25.size
     refine ⟨hx29, ?_⟩
     refine tn rfl (fun _ hG => y_not rfl) ?_
     refine tn rfl (fun _ hG => mvB rfl) ?_
     refine gspT 46 rfl (fun hg31 => ?_) (fun hg31 => ?_)
     ·
      have hg31n := hg31; try simp only [nm] at hg31n
      refine tns rfl rfl hg31 ?_
      refine tns rfl rfl hg31 ?_
      refine tns rfl rfl hg31 ?_
      refine tns rfl rfl hg31 ?_
      refine tns rfl rfl hg31 ?_
      refine tns rfl rfl hg31 ?_
      refine tns rfl rfl hg31 ?_
      refine tns rfl rfl hg31 ?_
      refine tns rfl rfl hg31 ?_
      refine tns rfl rfl hg31 ?_
      refine tn rfl (fun _ hG => y_pickT rfl hg31 (v := .bool _) rfl) ?_
      refine tn rfl (fun _ hG => mvB rfl) ?_
      refine tns rfl rfl rfl ?_
      refine tns rfl rfl rfl ?_
      refine tns rfl rfl rfl ?_
      refine tns rfl rfl rfl ?_
      refine tns rfl rfl rfl ?_
      refine tns rfl rfl rfl ?_
      refine tns rfl rfl rfl ?_
      refine tnu rfl rfl ?_
      refine tnu rfl rfl ?_
      refine tnu rfl rfl ?_
      refine t_end ?_
      have hz32 := hx29.size
      replace hN := hN.ext hx29
      replace hA := hA.ext hx29
      replace hSg := hSg.ext hx29
      replace hE := hE.step hx29 (.inl (Nat.le_refl _))
      replace hb2 := hb2.ext hx29
      replace hb3 := hb3.ext hx29
      replace hSS := hSS.ext hx29
      replace hES := hES.ext hx29
      replace hlp0 := hlp0.step hx29 (.inl (Nat.le_refl _))
      replace hAk := hAk.ext hx29
      refine stu rfl rfl ?_
      refine stu rfl rfl ?_
      refine stu rfl rfl ?_
      refine sts rfl rfl rfl ?_
      refine st (y_pickT rfl rfl (v := .bool _) rfl) ?_
      refine rg_end ?_
      refine n_then ?_
      refine cnd rfl (fun hc2 => ?_) (fun hc2 => absurd hc2 (by decide))
      have hno : ¬ CyOk N arcs signs := fun h => by
        have h1 := h.a.rng k (by omega)
        first
        | omega
        | (obtain ⟨q, hq, he⟩ := mem_tk (show el arcs (k : Int) ∈ arcs.take k by assumption)
           exact h.a.dist q k hq (by omega) he)
      refine wp_seq ?_
      refine rg ?_
      refine st (asB rfl) ?_
      refine rg_end ?_
      refine n_then ?_
      refine wp_ret ?_
      refine r_then (r_blk (r_then (r_then (r_blk (r_then (ret1 (v := (.bool _)) Try.results52 rfl ?_))))))
      exact ⟨false, rfl, ⟨fun h => (by cases h), fun h => absurd h hno⟩, hE⟩
     ·
      have hg31n := hg31; try simp only [nm] at hg31n
      refine tng rfl rfl rfl hg31 (fun _ hG => y_fld fld58_0 rfl) ?_
      refine tng rfl rfl rfl hg31 (fun _ hG => y_lb (hb3.ext hG) na22 rfl rfl) ?_
      refine tng rfl rfl rfl hg31 (fun _ hG => mvI rfl) ?_
      refine tng rfl rfl rfl hg31 (fun _ hG => y_slh sl22 rfl rfl (by omega) (by omega)) ?_
      refine tng rfl rfl rfl hg31 (fun _ hG => y_fld fld58_0 rfl) ?_
      refine tng rfl rfl rfl hg31 (fun _ hG => y_lb (hb3.ext hG) na22 rfl rfl) ?_
      refine tng rfl rfl rfl hg31 (fun _ hG => mvI rfl) ?_
      refine tng rfl rfl rfl hg31 (fun _ hG => y_ix (hA.ext hG) sl22 rfl (rfl) rfl (by omega) (by omega)) ?_
      refine tng rfl rfl rfl hg31 (fun _ hG => y_le (hA.ext hG) na3 rfl (by omega) (by omega) rfl) ?_
      refine tcg rfl rfl rfl hg31 cl49 (ref11_has_ok (arcs.take k) _ _ _ _ (el arcs (k : Int)) _ _ (by simp; omega) (hAk.ext hx29) (by simp; omega)) rfl ?_
      rintro v37 w33 ⟨rfl, ho34⟩
      have hx38 := hx29.step ho34 (.inl (Nat.le_refl _))
      have hz39 := ho34.size
      refine ⟨hx38, ?_⟩
      refine tn rfl (fun _ hG => y_pickF rfl hg31 (v := .bool _) rfl) ?_
      refine tn rfl (fun _ hG => mvB rfl) ?_
      refine gspT 58 rfl (fun hg40 => ?_) (fun hg40 => ?_)
      ·
       have hg40n := hg40; try simp only [nm] at hg40n
       refine tns rfl rfl hg40 ?_
       refine tns rfl rfl hg40 ?_
       refine tns rfl rfl hg40 ?_
       refine tns rfl rfl hg40 ?_
       refine tns rfl rfl hg40 ?_
       refine tns rfl rfl hg40 ?_
       refine tns rfl rfl hg40 ?_
       refine tnu rfl rfl ?_
       refine tnu rfl rfl ?_
       refine tnu rfl rfl ?_
       refine t_end ?_
       have hz41 := hx38.size
       replace hN := hN.ext hx38
       replace hA := hA.ext hx38
       replace hSg := hSg.ext hx38
       replace hE := hE.step hx38 (.inl (Nat.le_refl _))
       replace hb2 := hb2.ext hx38
       replace hb3 := hb3.ext hx38
       replace hSS := hSS.ext hx38
       replace hES := hES.ext hx38
       replace hlp0 := hlp0.step hx38 (.inl (Nat.le_refl _))
       replace hAk := hAk.ext hx38
       refine stu rfl rfl ?_
       refine stu rfl rfl ?_
       refine stu rfl rfl ?_
       refine sts rfl rfl hg40 ?_
       refine st (y_pickT rfl hg40 (v := .bool _) rfl) ?_
       refine rg_end ?_
       refine n_then ?_
       refine cnd rfl (fun hc2 => ?_) (fun hc2 => absurd hc2 (by decide))
       have hno : ¬ CyOk N arcs signs := fun h => by
         have h1 := h.a.rng k (by omega)
         first
         | omega
         | (obtain ⟨q, hq, he⟩ := mem_tk (show el arcs (k : Int) ∈ arcs.take k by assumption)
            exact h.a.dist q k hq (by omega) he)
       refine wp_seq ?_
       refine rg ?_
       refine st (asB rfl) ?_
       refine rg_end ?_
       refine n_then ?_
       refine wp_ret ?_
       refine r_then (r_blk (r_then (r_then (r_blk (r_then (ret1 (v := (.bool _)) Try.results52 rfl ?_))))))
       exact ⟨false, rfl, ⟨fun h => (by cases h), fun h => absurd h hno⟩, hE⟩
      ·
       have hg40n := hg40; try simp only [nm] at hg40n
       refine tng rfl rfl rfl hg40 (fun _ hG => y_fld fld58_1 rfl) ?_
       refine tng rfl rfl rfl hg40 (fun _ hG => y_lb (hb3.ext hG) na22 rfl rfl) ?_
       refine tng rfl rfl rfl hg40 (fun _ hG => mvI rfl) ?_
       refine tng rfl rfl rfl hg40 (fun _ hG => y_ix (hSg.ext hG) sl22 rfl (rfl) rfl (by omega) (by omega)) ?_
       refine tng rfl rfl rfl hg40 (fun _ hG => y_le (hSg.ext hG) na3 rfl (by omega) (by omega) rfl) ?_
       refine tng rfl rfl rfl hg40 (fun _ hG => y_neq rfl rfl) ?_
       refine tng rfl rfl rfl hg40 (fun _ hG => mvB rfl) ?_
       refine gspT 65 rfl (fun hg42 => ?_) (fun hg42 => ?_)
       ·
        have hg42n := hg42; try simp only [nm] at hg42n
        refine tng rfl rfl rfl hg42 (fun _ hG => y_fld fld58_1 rfl) ?_
        refine tng rfl rfl rfl hg42 (fun _ hG => y_lb (hb3.ext hG) na22 rfl rfl) ?_
        refine tng rfl rfl rfl hg42 (fun _ hG => mvI rfl) ?_
        refine t_end ?_
        have hz43 := hx38.size
        replace hN := hN.ext hx38
        replace hA := hA.ext hx38
        replace hSg := hSg.ext hx38
        replace hE := hE.step hx38 (.inl (Nat.le_refl _))
        replace hb2 := hb2.ext hx38
        replace hb3 := hb3.ext hx38
        replace hSS := hSS.ext hx38
        replace hES := hES.ext hx38
        replace hlp0 := hlp0.step hx38 (.inl (Nat.le_refl _))
        replace hAk := hAk.ext hx38
        refine stg rfl rfl hg42 (y_ix hSg sl22 rfl (rfl) rfl (by omega) (by omega)) ?_
        refine stg rfl rfl hg42 (y_le hSg na3 rfl (by omega) (by omega) rfl) ?_
        refine stg rfl rfl hg42 (y_neq rfl rfl) ?_
        refine stg rfl rfl hg40 (y_pickT rfl hg42 (v := .bool _) rfl) ?_
        refine st (y_pickF rfl hg40 (v := .bool _) rfl) ?_
        refine rg_end ?_
        refine n_then ?_
        refine cnd rfl (fun hc2 => ?_) (fun hc2 => ?_)
        ·
         try simp only [nm] at hc2
         have hno : ¬ CyOk N arcs signs := fun h => by
           have h1 := h.a.rng k (by omega)
           first
           | omega
           | (obtain ⟨q, hq, he⟩ := mem_tk (show el arcs (k : Int) ∈ arcs.take k by assumption)
              exact h.a.dist q k hq (by omega) he)
         refine wp_seq ?_
         refine rg ?_
         refine st (asB rfl) ?_
         refine rg_end ?_
         refine n_then ?_
         refine wp_ret ?_
         refine r_then (r_blk (r_then (r_then (r_blk (r_then (ret1 (v := (.bool _)) Try.results52 rfl ?_))))))
         exact ⟨false, rfl, ⟨fun h => (by cases h), fun h => absurd h hno⟩, hE⟩
        ·
         try simp only [nm] at hc2
         have hi0 : 0 ≤ el arcs (k : Int) ∧ el arcs (k : Int) < N.acts.length := by omega
         have hnm : ¬ el arcs (k : Int) ∈ arcs.take k := by assumption
         have hsg : el signs (k : Int) = 1 ∨ el signs (k : Int) = -1 := by omega
         have hca1 := hca_.succ hi0.1 hi0.2 hsg (fun i hi e => hnm (by rw [← e]; exact tk_mem hi (by omega)))
         refine wp_skip ?_
         refine n_then ?_
         refine wp_seq ?_
         refine rgD 10 (fun w_ => Ext w33 w_) (fun i => Nat.beq i 9) mixed (by kernel_rfl) ?_
         intro w44 ho45 hs46
         refine ⟨ho45, ?_⟩
         have hx47 := ho45
         refine tn rfl (fun _ hG => y_fld fld26_2 rfl) ?_
         refine tn rfl (fun _ hG => y_lb (hb2.ext hG) na24 rfl rfl) ?_
         refine tn rfl (fun _ hG => y_fld fld58_0 rfl) ?_
         refine tn rfl (fun _ hG => y_lb (hb3.ext hG) na22 rfl rfl) ?_
         refine tn rfl (fun _ hG => mvI rfl) ?_
         refine tn rfl (fun _ hG => y_ix (hA.ext hG) sl22 rfl (rfl) rfl (by omega) (by omega)) ?_
         refine tn rfl (fun _ hG => y_le (hA.ext hG) na3 rfl (by omega) (by omega) rfl) ?_
         refine tn rfl (fun _ hG => y_ix (hN.a.ext hG) sl24 rfl (rfl) rfl (by omega) (by omega)) ?_
         refine tn rfl (fun _ hG => y_lw (hN.a.ext hG) agg36 rfl (by omega) (by omega)) ?_
         refine td rfl (d_allocA zer36 ?_)
         intro b8 w48 hbb8 hs50 ho49 hb8
         have hx51 := hx47.step ho49 (.inl (Nat.le_refl _))
         have hz52 := ho49.size
         refine ⟨hx51, ?_⟩
         refine t_end ?_
         have hz53 := hx51.size
         replace hN := hN.ext hx51
         replace hA := hA.ext hx51
         replace hSg := hSg.ext hx51
         replace hE := hE.step hx51 (.inl (Nat.le_refl _))
         replace hb2 := hb2.ext hx51
         replace hb3 := hb3.ext hx51
         replace hSS := hSS.ext hx51
         replace hES := hES.ext hx51
         replace hlp0 := hlp0.step hx51 (.inl (Nat.le_refl _))
         refine sd0 (d_stN hb8 rfl rfl sz36 rfl rfl ?_)
         intro w54 hs56 ho55 hb8'
         clear hb8; have hb8 := hb8'; clear hb8'
         have hz57 := ho55.size
         replace hN := hN.out ho55 (by first | omega | (simp only [blk_some, hi1_some] at *; omega))
         replace hA := hA.out ho55 (by first | omega | (simp only [blk_some, hi1_some] at *; omega))
         replace hSg := hSg.out ho55 (by first | omega | (simp only [blk_some, hi1_some] at *; omega))
         replace hE := hE.step ho55 (by first | omega | (simp only [blk_some, hi1_some] at *; omega))
         replace hb2 := hb2.out ho55 (by first | omega | (simp only [blk_some, hi1_some] at *; omega))
         replace hb3 := hb3.out ho55 (by first | omega | (simp only [blk_some, hi1_some] at *; omega))
         have hrnhSS := hSS.rng
         replace hSS := hSS.out ho55 (by first | omega | (simp only [blk_some, hi1_some] at *; omega))
         have hrnhES := hES.rng
         replace hES := hES.out ho55 (by first | omega | (simp only [blk_some, hi1_some] at *; omega))
         replace hlp0 := hlp0.step ho55 (by first | omega | (simp only [blk_some, hi1_some] at *; omega))
         refine rg_end ?_
         refine n_then ?_
         refine wp_seq ?_
         refine rg ?_
         refine st (y_fld fld58_1 rfl) ?_
         refine st (y_lb hb3 na22 rfl rfl) ?_
         refine st (mvI rfl) ?_
         refine st (y_ix hSg sl22 rfl (rfl) rfl (by omega) (by omega)) ?_
         refine st (y_le hSg na3 rfl (by omega) (by omega) rfl) ?_
         refine st (y_gtr rfl rfl) ?_
         refine rg_end ?_
         refine n_then ?_
         refine cnd rfl (fun hc3 => ?_) (fun hc3 => ?_)
         ·
          try simp only [nm] at hc3
          have e1 : stK N arcs signs k = (el N.acts (el arcs (k : Int))).fr := by unfold stK cySt; rw [if_neg (by omega)]
          have e2 : enK N arcs signs k = (el N.acts (el arcs (k : Int))).tt := by unfold enK cyEn; rw [if_neg (by omega)]
          obtain ⟨zk, hzk⟩ : ∃ z, z = w54.heap.size := ⟨_, rfl⟩
          have hSSr := hSS.rng
          have hESr := hES.rng
          have hss1 : ss ++ [(el N.acts (el arcs (k : Int))).fr] = (List.range (k + 1)).map (stK N arcs signs) := by rw [List.range_succ, List.map_append, hss, ← e1]; rfl
          have hes1 : es ++ [(el N.acts (el arcs (k : Int))).tt] = (List.range (k + 1)).map (enK N arcs signs) := by rw [List.range_succ, List.map_append, hes, ← e2]; rfl
          refine rgP 9 (fun w_ => Out (blk as_) (hi1 as_) w54 w_) (fun i => Nat.beq i 3 || Nat.beq i 4 || Nat.beq i 8) (.step 0 (.step 1 (.step 2 (.step 5 (.step 6 (.step 7 (.fork 3 (.fork 4 (.step 8 (.done)) (.fork 8 (.step 4 (.done)) (.last))) (.fork 8 (.step 3 (.step 4 (.done))) (.last))))))))) mixed (by kernel_rfl) ?_
          intro w58 ho59 hs60
          refine ⟨ho59.wide (.inl (Nat.le_refl _)), ?_⟩
          have hx61 := ho59.wide (a' := (blk as_)) (b' := (hi1 as_)) (.inl (Nat.le_refl _))
          replace hSS := hSS.ext ho59
          replace hES := hES.ext ho59
          refine p_step rfl ?_
          refine tn rfl (fun _ hG => mvS rfl) ?_
          refine t_end ?_
          refine p_step rfl ?_
          refine tn rfl (fun _ hG => y_fld fld36_1 rfl) ?_
          refine t_end ?_
          refine p_step rfl ?_
          refine tn rfl (fun _ hG => y_lb (hb8.out hG (by first | omega | (simp only [blk_some, hi1_some] at *; omega))) na3 rfl rfl) ?_
          refine t_end ?_
          refine p_step rfl ?_
          refine tn rfl (fun _ hG => mvS rfl) ?_
          refine t_end ?_
          refine p_step rfl ?_
          refine tn rfl (fun _ hG => y_fld fld36_2 rfl) ?_
          refine t_end ?_
          refine p_step rfl ?_
          refine tn rfl (fun _ hG => y_lb (hb8.out hG (by first | omega | (simp only [blk_some, hi1_some] at *; omega))) na3 rfl rfl) ?_
          refine t_end ?_
          refine p_fork ?_ ?_
          ·
           refine p_step rfl ?_
           refine td rfl (d_bs (bsl22_1 _ _) rfl ?_)
           intro bl65 w62 hbbl65 hs64 ho63 hbl65
           have hx66 := hx61.step ho63 (.inl (Nat.le_refl _))
           have hz67 := ho63.size
           replace hES := hES.ext ho63
           replace hSS := hSS.ext ho63
           refine ⟨hx66, ?_⟩
           refine t_end ?_
           refine p_fork ?_ ?_
           ·
            refine p_step rfl ?_
            have hrhSS := hSS.rng
            refine td rfl (d_appA (xs := [(el N.acts (el arcs (k : Int))).fr]) hSS sl22 infoz3 (by decide) rfl rfl rfl rfl (hbl65) (fun _ => rfl) (by simp; unfold maxLen; omega) (by simp; omega) (by omega) (by omega) ?_)
            intro as1 cs1 w68 hat1 hoS hSS'
            have hs69 := hoS.size
            clear hSS; have hSS := hSS'; clear hSS'
            have hx72 : Out (blk as_) (hi1 as_) w54 w68 := hx66.step hoS (by first | omega | (simp only [blk_some, hi1_some] at *; omega))
            replace hES := hES.out hoS (by first | omega | (simp only [blk_some, hi1_some] at *; omega))
            replace hbl65 := hbl65.out hoS (by first | omega | (simp only [blk_some, hi1_some] at *; omega))
            refine ⟨hx72, ?_⟩
            have hSSr1 := hSS.rng
            refine t_end ?_
            refine p_step rfl ?_
            refine td rfl (d_bs (bsl22_1 _ _) rfl ?_)
            intro bl76 w73 hbbl76 hs75 ho74 hbl76
            have hx77 := hx72.step ho74 (.inl (Nat.le_refl _))
            have hz78 := ho74.size
            replace hES := hES.ext ho74
            replace hSS := hSS.ext ho74
            replace hbl65 := hbl65.ext ho74
            refine ⟨hx77, ?_⟩
            refine t_end ?_
            refine p_done ?_
            have hz79 := hx77.size
            replace hN := hN.out hx77 (by first | omega | (simp only [blk_some, hi1_some] at *; omega))
            replace hA := hA.out hx77 (by first | omega | (simp only [blk_some, hi1_some] at *; omega))
            replace hSg := hSg.out hx77 (by first | omega | (simp only [blk_some, hi1_some] at *; omega))
            replace hE := hE.step hx77 (by first | omega | (simp only [blk_some, hi1_some] at *; omega))
            replace hb2 := hb2.out hx77 (by first | omega | (simp only [blk_some, hi1_some] at *; omega))
            replace hb3 := hb3.out hx77 (by first | omega | (simp only [blk_some, hi1_some] at *; omega))
            replace hlp0 := hlp0.step hx77 (by first | omega | (simp only [blk_some, hi1_some] at *; omega))
            replace hb8 := hb8.out hx77 (by first | omega | (simp only [blk_some, hi1_some] at *; omega))
            have hrhES := hES.rng
            refine sd (d_appA (xs := [(el N.acts (el arcs (k : Int))).tt]) hES sl22 infoz3 (by decide) rfl rfl rfl rfl (hbl76) (fun _ => rfl) (by simp; unfold maxLen; omega) (by simp; omega) (by omega) (by omega) ?_)
            intro ae1 ce1 w80 hat2 hoE hES'
            have hs81 := hoE.size
            clear hES; have hES := hES'; clear hES'
            have hz84 := hoE.size
            replace hN := hN.out hoE (by first | omega | (simp only [blk_some, hi1_some] at *; omega))
            replace hA := hA.out hoE (by first | omega | (simp only [blk_some, hi1_some] at *; omega))
            replace hSg := hSg.out hoE (by first | omega | (simp only [blk_some, hi1_some] at *; omega))
            replace hE := hE.step hoE (by first | omega | (simp only [blk_some, hi1_some] at *; omega))
            replace hb2 := hb2.out hoE (by first | omega | (simp only [blk_some, hi1_some] at *; omega))
            replace hb3 := hb3.out hoE (by first | omega | (simp only [blk_some, hi1_some] at *; omega))
            replace hlp0 := hlp0.step hoE (by first | omega | (simp only [blk_some, hi1_some] at *; omega))
            replace hb8 := hb8.out hoE (by first | omega | (simp only [blk_some, hi1_some] at *; omega))
            replace hbl65 := hbl65.out hoE (by first | omega | (simp only [blk_some, hi1_some] at *; omega))
            have hrnhSS := hSS.rng
            replace hSS := hSS.out hoE (by first | omega | (simp only [blk_some, hi1_some] at *; omega))
            have hESr1 := hES.rng
            refine st (asS rfl) ?_
            refine st (asS rfl) ?_
            refine rg_end ?_
            refine n_blk ?_
            refine n_then ?_
            refine rg ?_
            refine st (mvI rfl) ?_
            refine st (y_add rfl rfl (by omega)) ?_
            refine st (asI rfl) ?_
            refine rg_end ?_
            exact n_then ⟨(k + 1, _, _, _, _, _, _), _, rfl, same_lk rfl (same_h0), ⟨rfl, rfl, rfl, trivial⟩, ⟨hlp0, by omega, hca1, hss1, hes1, hSS.wide (by omega), hES.wide (by omega), by first | omega | (dsimp only; omega)⟩, by first | omega | (dsimp only; omega)⟩
           refine p_fork ?_ ?_
           ·
            refine p_step rfl ?_
            refine td rfl (d_bs (bsl22_1 _ _) rfl ?_)
            intro bl88 w85 hbbl88 hs87 ho86 hbl88
            have hx89 := hx66.step ho86 (.inl (Nat.le_refl _))
            have hz90 := ho86.size
            replace hES := hES.ext ho86
            replace hSS := hSS.ext ho86
            replace hbl65 := hbl65.ext ho86
            refine ⟨hx89, ?_⟩
            refine t_end ?_
            refine p_step rfl ?_
            have hrhSS := hSS.rng
            refine td rfl (d_appA (xs := [(el N.acts (el arcs (k : Int))).fr]) hSS sl22 infoz3 (by decide) rfl rfl rfl rfl (hbl65) (fun _ => rfl) (by simp; unfold maxLen; omega) (by simp; omega) (by omega) (by omega) ?_)
            intro as1 cs1 w91 hat1 hoS hSS'
            have hs92 := hoS.size
            clear hSS; have hSS := hSS'; clear hSS'
            have hx95 : Out (blk as_) (hi1 as_) w54 w91 := hx89.step hoS (by first | omega | (simp only [blk_some, hi1_some] at *; omega))
            replace hES := hES.out hoS (by first | omega | (simp only [blk_some, hi1_some] at *; omega))
            replace hbl65 := hbl65.out hoS (by first | omega | (simp only [blk_some, hi1_some] at *; omega))
            replace hbl88 := hbl88.out hoS (by first | omega | (simp only [blk_some, hi1_some] at *; omega))
            refine ⟨hx95, ?_⟩
            have hSSr1 := hSS.rng
            refine t_end ?_
            refine p_done ?_
            have hz96 := hx95.size
            replace hN := hN.out hx95 (by first | omega | (simp only [blk_some, hi1_some] at *; omega))
            replace hA := hA.out hx95 (by first | omega | (simp only [blk_some, hi1_some] at *; omega))
            replace hSg := hSg.out hx95 (by first | omega | (simp only [blk_some, hi1_some] at *; omega))
            replace hE := hE.step hx95 (by first | omega | (simp only [blk_some, hi1_some] at *; omega))
            replace hb2 := hb2.out hx95 (by first | omega | (simp only [blk_some, hi1_some] at *; omega))
            replace hb3 := hb3.out hx95 (by first | omega | (simp only [blk_some, hi1_some] at *; omega))
            replace hlp0 := hlp0.step hx95 (by first | omega | (simp only [blk_some, hi1_some] at *; omega))
            replace hb8 := hb8.out hx95 (by first | omega | (simp only [blk_some, hi1_some] at *; omega))
            have hrhES := hES.rng
            refine sd (d_appA (xs := [(el N.acts (el arcs (k : Int))).tt]) hES sl22 infoz3 (by decide) rfl rfl rfl rfl (hbl88) (fun _ => rfl) (by simp; unfold maxLen; omega) (by simp; omega) (by omega) (by omega) ?_)
            intro ae1 ce1 w97 hat2 hoE hES'
            have hs98 := hoE.size
            clear hES; have hES := hES'; clear hES'
            have hz101 := hoE.size
            replace hN := hN.out hoE (by first | omega | (simp only [blk_some, hi1_some] at *; omega))
            replace hA := hA.out hoE (by first | omega | (simp only [blk_some, hi1_some] at *; omega))
            replace hSg := hSg.out hoE (by first | omega | (simp only [blk_some, hi1_some] at *; omega))
            replace hE := hE.step hoE (by first | omega | (simp only [blk_some, hi1_some] at *; omega))
            replace hb2 := hb2.out hoE (by first | omega | (simp only [blk_some, hi1_some] at *; omega))
            replace hb3 := hb3.out hoE (by first | omega | (simp only [blk_some, hi1_some] at *; omega))
            replace hlp0 := hlp0.step hoE (by first | omega | (simp only [blk_some, hi1_some] at *; omega))
            replace hb8 := hb8.out hoE (by first | omega | (simp only [blk_some, hi1_some] at *; omega))
            replace hbl65 := hbl65.out hoE (by first | omega | (simp only [blk_some, hi1_some] at *; omega))
            have hrnhSS := hSS.rng
            replace hSS := hSS.out hoE (by first | omega | (simp only [blk_some, hi1_some] at *; omega))
            have hESr1 := hES.rng
            refine st (asS rfl) ?_
            refine st (asS rfl) ?_
            refine rg_end ?_
            refine n_blk ?_
            refine n_then ?_
            refine rg ?_
            refine st (mvI rfl) ?_
            refine st (y_add rfl rfl (by omega)) ?_
            refine st (asI rfl) ?_
            refine rg_end ?_
            exact n_then ⟨(k + 1, _, _, _, _, _, _), _, rfl, same_lk rfl (same_h0), ⟨rfl, rfl, rfl, trivial⟩, ⟨hlp0, by omega, hca1, hss1, hes1, hSS.wide (by omega), hES.wide (by omega), by first | omega | (dsimp only; omega)⟩, by first | omega | (dsimp only; omega)⟩
           exact p_last
          refine p_fork ?_ ?_
          ·
           refine p_step rfl ?_
           refine td rfl (d_bs (bsl22_1 _ _) rfl ?_)
           intro bl105 w102 hbbl105 hs104 ho103 hbl105
           have hx106 := hx61.step ho103 (.inl (Nat.le_refl _))
           have hz107 := ho103.size
           replace hES := hES.ext ho103
           replace hSS := hSS.ext ho103
           refine ⟨hx106, ?_⟩
           refine t_end ?_
           refine p_step rfl ?_
           refine td rfl (d_bs (bsl22_1 _ _) rfl ?_)
           intro bl111 w108 hbbl111 hs110 ho109 hbl111
           have hx112 := hx106.step ho109 (.inl (Nat.le_refl _))
           have hz113 := ho109.size
           replace hES := hES.ext ho109
           replace hSS := hSS.ext ho109
           replace hbl105 := hbl105.ext ho109
           refine ⟨hx112, ?_⟩
           refine t_end ?_
           refine p_step rfl ?_
           have hrhSS := hSS.rng
           refine td rfl (d_appA (xs := [(el N.acts (el arcs (k : Int))).fr]) hSS sl22 infoz3 (by decide) rfl rfl rfl rfl (hbl111) (fun _ => rfl) (by simp; unfold maxLen; omega) (by simp; omega) (by omega) (by omega) ?_)
           intro as1 cs1 w114 hat1 hoS hSS'
           have hs115 := hoS.size
           clear hSS; have hSS := hSS'; clear hSS'
           have hx118 : Out (blk as_) (hi1 as_) w54 w114 := hx112.step hoS (by first | omega | (simp only [blk_some, hi1_some] at *; omega))
           replace hES := hES.out hoS (by first | omega | (simp only [blk_some, hi1_some] at *; omega))
           replace hbl105 := hbl105.out hoS (by first | omega | (simp only [blk_some, hi1_some] at *; omega))
           replace hbl111 := hbl111.out hoS (by first | omega | (simp only [blk_some, hi1_some] at *; omega))
           refine ⟨hx118, ?_⟩
           have hSSr1 := hSS.rng
           refine t_end ?_
           refine p_done ?_
           have hz119 := hx118.size
           replace hN := hN.out hx118 (by first | omega | (simp only [blk_some, hi1_some] at *; omega))
           replace hA := hA.out hx118 (by first | omega | (simp only [blk_some, hi1_some] at *; omega))
           replace hSg := hSg.out hx118 (by first | omega | (simp only [blk_some, hi1_some] at *; omega))
           replace hE := hE.step hx118 (by first | omega | (simp only [blk_some, hi1_some] at *; omega))
           replace hb2 := hb2.out hx118 (by first | omega | (simp only [blk_some, hi1_some] at *; omega))
           replace hb3 := hb3.out hx118 (by first | omega | (simp only [blk_some, hi1_some] at *; omega))
           replace hlp0 := hlp0.step hx118 (by first | omega | (simp only [blk_some, hi1_some] at *; omega))
           replace hb8 := hb8.out hx118 (by first | omega | (simp only [blk_some, hi1_some] at *; omega))
           have hrhES := hES.rng
           refine sd (d_appA (xs := [(el N.acts (el arcs (k : Int))).tt]) hES sl22 infoz3 (by decide) rfl rfl rfl rfl (hbl105) (fun _ => rfl) (by simp; unfold maxLen; omega) (by simp; omega) (by omega) (by omega) ?_)
           intro ae1 ce1 w120 hat2 hoE hES'
           have hs121 := hoE.size
           clear hES; have hES := hES'; clear hES'
           have hz124 := hoE.size
           replace hN := hN.out hoE (by first | omega | (simp only [blk_some, hi1_some] at *; omega))
           replace hA := hA.out hoE (by first | omega | (simp only [blk_some, hi1_some] at *; omega))
           replace hSg := hSg.out hoE (by first | omega | (simp only [blk_some, hi1_some] at *; omega))
           replace hE := hE.step hoE (by first | omega | (simp only [blk_some, hi1_some] at *; omega))
           replace hb2 := hb2.out hoE (by first | omega | (simp only [blk_some, hi1_some] at *; omega))
           replace hb3 := hb3.out hoE (by first | omega | (simp only [blk_some, hi1_some] at *; omega))
           replace hlp0 := hlp0.step hoE (by first | omega | (simp only [blk_some, hi1_some] at *; omega))
           replace hb8 := hb8.out hoE (by first | omega | (simp only [blk_some, hi1_some] at *; omega))
           replace hbl111 := hbl111.out hoE (by first | omega | (simp only [blk_some, hi1_some] at *; omega))
           have hrnhSS := hSS.rng
           replace hSS := hSS.out hoE (by first | omega | (simp only [blk_some, hi1_some] at *; omega))
           have hESr1 := hES.rng
           refine st (asS rfl) ?_
           refine st (asS rfl) ?_
           refine rg_end ?_
           refine n_blk ?_
           refine n_then ?_
           refine rg ?_
           refine st (mvI rfl) ?_
           refine st (y_add rfl rfl (by omega)) ?_
           refine st (asI rfl) ?_
           refine rg_end ?_
           exact n_then ⟨(k + 1, _, _, _, _, _, _), _, rfl, same_lk rfl (same_h0), ⟨rfl, rfl, rfl, trivial⟩, ⟨hlp0, by omega, hca1, hss1, hes1, hSS.wide (by omega), hES.wide (by omega), by first | omega | (dsimp only; omega)⟩, by first | omega | (dsimp only; omega)⟩
          exact p_last
         ·
          try simp only [nm] at hc3
          have e1 : stK N arcs signs k = (el N.acts (el arcs (k : Int))).tt := by unfold stK cySt; rw [if_pos (by omega)]
          have e2 : enK N arcs signs k = (el N.acts (el arcs (k : Int))).fr := by unfold enK cyEn; rw [if_pos (by omega)]
          obtain ⟨zk, hzk⟩ : ∃ z, z = w54.heap.size := ⟨_, rfl⟩
          have hSSr := hSS.rng
          have hESr := hES.rng
          have hss1 : ss ++ [(el N.acts (el arcs (k : Int))).tt] = (List.range (k + 1)).map (stK N arcs signs) := by rw [List.range_succ, List.map_append, hss, ← e1]; rfl
          have hes1 : es ++ [(el N.acts (el arcs (k : Int))).fr] = (List.range (k + 1)).map (enK N arcs signs) := by rw [List.range_succ, List.map_append, hes, ← e2]; rfl
          refine rgP 9 (fun w_ => Out (blk as_) (hi1 as_) w54 w_) (fun i => Nat.beq i 3 || Nat.beq i 4 || Nat.beq i 8) (.step 0 (.step 1 (.step 2 (.step 5 (.step 6 (.step 7 (.fork 3 (.fork 4 (.step 8 (.done)) (.fork 8 (.step 4 (.done)) (.last))) (.fork 8 (.step 3 (.step 4 (.done))) (.last))))))))) mixed (by kernel_rfl) ?_
          intro w125 ho126 hs127
          refine ⟨ho126.wide (.inl (Nat.le_refl _)), ?_⟩
          have hx128 := ho126.wide (a' := (blk as_)) (b' := (hi1 as_)) (.inl (Nat.le_refl _))
          replace hSS := hSS.ext ho126
          replace hES := hES.ext ho126
          refine p_step rfl ?_
          refine tn rfl (fun _ hG => mvS rfl) ?_
          refine t_end ?_
          refine p_step rfl ?_
          refine tn rfl (fun _ hG => y_fld fld36_2 rfl) ?_
          refine t_end ?_
          refine p_step rfl ?_
          refine tn rfl (fun _ hG => y_lb (hb8.out hG (by first | omega | (simp only [blk_some, hi1_some] at *; omega))) na3 rfl rfl) ?_
          refine t_end ?_
          refine p_step rfl ?_
          refine tn rfl (fun _ hG => mvS rfl) ?_
          refine t_end ?_
          refine p_step rfl ?_
          refine tn rfl (fun _ hG => y_fld fld36_1 rfl) ?_
          refine t_end ?_
          refine p_step rfl ?_
          refine tn rfl (fun _ hG => y_lb (hb8.out hG (by first | omega | (simp only [blk_some, hi1_some] at *; omega))) na3 rfl rfl) ?_
          refine t_end ?_
          refine p_fork ?_ ?_
          ·
           refine p_step rfl ?_
           refine td rfl (d_bs (bsl22_1 _ _) rfl ?_)
           intro bl132 w129 hbbl132 hs131 ho130 hbl132
           have hx133 := hx128.step ho130 (.inl (Nat.le_refl _))
           have hz134 := ho130.size
           replace hES := hES.ext ho130
           replace hSS := hSS.ext ho130
           refine ⟨hx133, ?_⟩
           refine t_end ?_
           refine p_fork ?_ ?_
           ·
            refine p_step rfl ?_
            have hrhSS := hSS.rng
            refine td rfl (d_appA (xs := [(el N.acts (el arcs (k : Int))).tt]) hSS sl22 infoz3 (by decide) rfl rfl rfl rfl (hbl132) (fun _ => rfl) (by simp; unfold maxLen; omega) (by simp; omega) (by omega) (by omega) ?_)
            intro as1 cs1 w135 hat1 hoS hSS'
            have hs136 := hoS.size
            clear hSS; have hSS := hSS'; clear hSS'
            have hx139 : Out (blk as_) (hi1 as_) w54 w135 := hx133.step hoS (by first | omega | (simp only [blk_some, hi1_some] at *; omega))
            replace hES := hES.out hoS (by first | omega | (simp only [blk_some, hi1_some] at *; omega))
            replace hbl132 := hbl132.out hoS (by first | omega | (simp only [blk_some, hi1_some] at *; omega))
            refine ⟨hx139, ?_⟩
            have hSSr1 := hSS.rng
            refine t_end ?_
            refine p_step rfl ?_
            refine td rfl (d_bs (bsl22_1 _ _) rfl ?_)
            intro bl143 w140 hbbl143 hs142 ho141 hbl143
            have hx144 := hx139.step ho141 (.inl (Nat.le_refl _))
            have hz145 := ho141.size
            replace hES := hES.ext ho141
            replace hSS := hSS.ext ho141
            replace hbl132 := hbl132.ext ho141
            refine ⟨hx144, ?_⟩
            refine t_end ?_
            refine p_done ?_
            have hz146 := hx144.size
            replace hN := hN.out hx144 (by first | omega | (simp only [blk_some, hi1_some] at *; omega))
            replace hA := hA.out hx144 (by first | omega | (simp only [blk_some, hi1_some] at *; omega))
            replace hSg := hSg.out hx144 (by first | omega | (simp only [blk_some, hi1_some] at *; omega))
            replace hE := hE.step hx144 (by first | omega | (simp only [blk_some, hi1_some] at *; omega))
            replace hb2 := hb2.out hx144 (by first | omega | (simp only [blk_some, hi1_some] at *; omega))
            replace hb3 := hb3.out hx144 (by first | omega | (simp only [blk_some, hi1_some] at *; omega))
            replace hlp0 := hlp0.step hx144 (by first | omega | (simp only [blk_some, hi1_some] at *; omega))
            replace hb8 := hb8.out hx144 (by first | omega | (simp only [blk_some, hi1_some] at *; omega))
            have hrhES := hES.rng
            refine sd (d_appA (xs := [(el N.acts (el arcs (k : Int))).fr]) hES sl22 infoz3 (by decide) rfl rfl rfl rfl (hbl143) (fun _ => rfl) (by simp; unfold maxLen; omega) (by simp; omega) (by omega) (by omega) ?_)
            intro ae1 ce1 w147 hat2 hoE hES'
            have hs148 := hoE.size
            clear hES; have hES := hES'; clear hES'
            have hz151 := hoE.size
            replace hN := hN.out hoE (by first | omega | (simp only [blk_some, hi1_some] at *; omega))
            replace hA := hA.out hoE (by first | omega | (simp only [blk_some, hi1_some] at *; omega))
            replace hSg := hSg.out hoE (by first | omega | (simp only [blk_some, hi1_some] at *; omega))
            replace hE := hE.step hoE (by first | omega | (simp only [blk_some, hi1_some] at *; omega))
            replace hb2 := hb2.out hoE (by first | omega | (simp only [blk_some, hi1_some] at *; omega))
            replace hb3 := hb3.out hoE (by first | omega | (simp only [blk_some, hi1_some] at *; omega))
            replace hlp0 := hlp0.step hoE (by first | omega | (simp only [blk_some, hi1_some] at *; omega))
            replace hb8 := hb8.out hoE (by first | omega | (simp only [blk_some, hi1_some] at *; omega))
            replace hbl132 := hbl132.out hoE (by first | omega | (simp only [blk_some, hi1_some] at *; omega))
            have hrnhSS := hSS.rng
            replace hSS := hSS.out hoE (by first | omega | (simp only [blk_some, hi1_some] at *; omega))
            have hESr1 := hES.rng
            refine st (asS rfl) ?_
            refine st (asS rfl) ?_
            refine rg_end ?_
            refine n_blk ?_
            refine n_then ?_
            refine rg ?_
            refine st (mvI rfl) ?_
            refine st (y_add rfl rfl (by omega)) ?_
            refine st (asI rfl) ?_
            refine rg_end ?_
            exact n_then ⟨(k + 1, _, _, _, _, _, _), _, rfl, same_lk rfl (same_h0), ⟨rfl, rfl, rfl, trivial⟩, ⟨hlp0, by omega, hca1, hss1, hes1, hSS.wide (by omega), hES.wide (by omega), by first | omega | (dsimp only; omega)⟩, by first | omega | (dsimp only; omega)⟩
           refine p_fork ?_ ?_
           ·
            refine p_step rfl ?_
            refine td rfl (d_bs (bsl22_1 _ _) rfl ?_)
            intro bl155 w152 hbbl155 hs154 ho153 hbl155
            have hx156 := hx133.step ho153 (.inl (Nat.le_refl _))
            have hz157 := ho153.size
            replace hES := hES.ext ho153
            replace hSS := hSS.ext ho153
            replace hbl132 := hbl132.ext ho153
            refine ⟨hx156, ?_⟩
            refine t_end ?_
            refine p_step rfl ?_
            have hrhSS := hSS.rng
            refine td rfl (d_appA (xs := [(el N.acts (el arcs (k : Int))).tt]) hSS sl22 infoz3 (by decide) rfl rfl rfl rfl (hbl132) (fun _ => rfl) (by simp; unfold maxLen; omega) (by simp; omega) (by omega) (by omega) ?_)
            intro as1 cs1 w158 hat1 hoS hSS'
            have hs159 := hoS.size
            clear hSS; have hSS := hSS'; clear hSS'
            have hx162 : Out (blk as_) (hi1 as_) w54 w158 := hx156.step hoS (by first | omega | (simp only [blk_some, hi1_some] at *; omega))
            replace hES := hES.out hoS (by first | omega | (simp only [blk_some, hi1_some] at *; omega))
            replace hbl132 := hbl132.out hoS (by first | omega | (simp only [blk_some, hi1_some] at *; omega))
            replace hbl155 := hbl155.out hoS (by first | omega | (simp only [blk_some, hi1_some] at *; omega))
            refine ⟨hx162, ?_⟩
            have hSSr1 := hSS.rng
            refine t_end ?_
            refine p_done ?_
            have hz163 := hx162.size
            replace hN := hN.out hx162 (by first | omega | (simp only [blk_some, hi1_some] at *; omega))
            replace hA := hA.out hx162 (by first | omega | (simp only [blk_some, hi1_some] at *; omega))
            replace hSg := hSg.out hx162 (by first | omega | (simp only [blk_some, hi1_some] at *; omega))
            replace hE := hE.step hx162 (by first | omega | (simp only [blk_some, hi1_some] at *; omega))
            replace hb2 := hb2.out hx162 (by first | omega | (simp only [blk_some, hi1_some] at *; omega))
            replace hb3 := hb3.out hx162 (by first | omega | (simp only [blk_some, hi1_some] at *; omega))
            replace hlp0 := hlp0.step hx162 (by first | omega | (simp only [blk_some, hi1_some] at *; omega))
            replace hb8 := hb8.out hx162 (by first | omega | (simp only [blk_some, hi1_some] at *; omega))
            have hrhES := hES.rng
            refine sd (d_appA (xs := [(el N.acts (el arcs (k : Int))).fr]) hES sl22 infoz3 (by decide) rfl rfl rfl rfl (hbl155) (fun _ => rfl) (by simp; unfold maxLen; omega) (by simp; omega) (by omega) (by omega) ?_)
            intro ae1 ce1 w164 hat2 hoE hES'
            have hs165 := hoE.size
            clear hES; have hES := hES'; clear hES'
            have hz168 := hoE.size
            replace hN := hN.out hoE (by first | omega | (simp only [blk_some, hi1_some] at *; omega))
            replace hA := hA.out hoE (by first | omega | (simp only [blk_some, hi1_some] at *; omega))
            replace hSg := hSg.out hoE (by first | omega | (simp only [blk_some, hi1_some] at *; omega))
            replace hE := hE.step hoE (by first | omega | (simp only [blk_some, hi1_some] at *; omega))
            replace hb2 := hb2.out hoE (by first | omega | (simp only [blk_some, hi1_some] at *; omega))
            replace hb3 := hb3.out hoE (by first | omega | (simp only [blk_some, hi1_some] at *; omega))
            replace hlp0 := hlp0.step hoE (by first | omega | (simp only [blk_some, hi1_some] at *; omega))
            replace hb8 := hb8.out hoE (by first | omega | (simp only [blk_some, hi1_some] at *; omega))
            replace hbl132 := hbl132.out hoE (by first | omega | (simp only [blk_some, hi1_some] at *; omega))
            have hrnhSS := hSS.rng
            replace hSS := hSS.out hoE (by first | omega | (simp only [blk_some, hi1_some] at *; omega))
            have hESr1 := hES.rng
            refine st (asS rfl) ?_
            refine st (asS rfl) ?_
            refine rg_end ?_
            refine n_blk ?_
            refine n_then ?_
            refine rg ?_
            refine st (mvI rfl) ?_
            refine st (y_add rfl rfl (by omega)) ?_
            refine st (asI rfl) ?_
            refine rg_end ?_
            exact n_then ⟨(k + 1, _, _, _, _, _, _), _, rfl, same_lk rfl (same_h0), ⟨rfl, rfl, rfl, trivial⟩, ⟨hlp0, by omega, hca1, hss1, hes1, hSS.wide (by omega), hES.wide (by omega), by first | omega | (dsimp only; omega)⟩, by first | omega | (dsimp only; omega)⟩
           exact p_last
          refine p_fork ?_ ?_
          ·
           refine p_step rfl ?_
           refine td rfl (d_bs (bsl22_1 _ _) rfl ?_)
           intro bl172 w169 hbbl172 hs171 ho170 hbl172
           have hx173 := hx128.step ho170 (.inl (Nat.le_refl _))
           have hz174 := ho170.size
           replace hES := hES.ext ho170
           replace hSS := hSS.ext ho170
           refine ⟨hx173, ?_⟩
           refine t_end ?_
           refine p_step rfl ?_
           refine td rfl (d_bs (bsl22_1 _ _) rfl ?_)
           intro bl178 w175 hbbl178 hs177 ho176 hbl178
           have hx179 := hx173.step ho176 (.inl (Nat.le_refl _))
           have hz180 := ho176.size
           replace hES := hES.ext ho176
           replace hSS := hSS.ext ho176
           replace hbl172 := hbl172.ext ho176
           refine ⟨hx179, ?_⟩
           refine t_end ?_
           refine p_step rfl ?_
           have hrhSS := hSS.rng
           refine td rfl (d_appA (xs := [(el N.acts (el arcs (k : Int))).tt]) hSS sl22 infoz3 (by decide) rfl rfl rfl rfl (hbl178) (fun _ => rfl) (by simp; unfold maxLen; omega) (by simp; omega) (by omega) (by omega) ?_)
           intro as1 cs1 w181 hat1 hoS hSS'
           have hs182 := hoS.size
           clear hSS; have hSS := hSS'; clear hSS'
           have hx185 : Out (blk as_) (hi1 as_) w54 w181 := hx179.step hoS (by first | omega | (simp only [blk_some, hi1_some] at *; omega))
           replace hES := hES.out hoS (by first | omega | (simp only [blk_some, hi1_some] at *; omega))
           replace hbl172 := hbl172.out hoS (by first | omega | (simp only [blk_some, hi1_some] at *; omega))
           replace hbl178 := hbl178.out hoS (by first | omega | (simp only [blk_some, hi1_some] at *; omega))
           refine ⟨hx185, ?_⟩
           have hSSr1 := hSS.rng
           refine t_end ?_
           refine p_done ?_
           have hz186 := hx185.size
           replace hN := hN.out hx185 (by first | omega | (simp only [blk_some, hi1_some] at *; omega))
           replace hA := hA.out hx185 (by first | omega | (simp only [blk_some, hi1_some] at *; omega))
           replace hSg := hSg.out hx185 (by first | omega | (simp only [blk_some, hi1_some] at *; omega))
           replace hE := hE.step hx185 (by first | omega | (simp only [blk_some, hi1_some] at *; omega))
           replace hb2 := hb2.out hx185 (by first | omega | (simp only [blk_some, hi1_some] at *; omega))
           replace hb3 := hb3.out hx185 (by first | omega | (simp only [blk_some, hi1_some] at *; omega))
           replace hlp0 := hlp0.step hx185 (by first | omega | (simp only [blk_some, hi1_some] at *; omega))
           replace hb8 := hb8.out hx185 (by first | omega | (simp only [blk_some, hi1_some] at *; omega))
           have hrhES := hES.rng
           refine sd (d_appA (xs := [(el N.acts (el arcs (k : Int))).fr]) hES sl22 infoz3 (by decide) rfl rfl rfl rfl (hbl172) (fun _ => rfl) (by simp; unfold maxLen; omega) (by simp; omega) (by omega) (by omega) ?_)
           intro ae1 ce1 w187 hat2 hoE hES'
           have hs188 := hoE.size
           clear hES; have hES := hES'; clear hES'
           have hz191 := hoE.size
           replace hN := hN.out hoE (by first | omega | (simp only [blk_some, hi1_some] at *; omega))
           replace hA := hA.out hoE (by first | omega | (simp only [blk_some, hi1_some] at *; omega))
           replace hSg := hSg.out hoE (by first | omega | (simp only [blk_some, hi1_some] at *; omega))
           replace hE := hE.step hoE (by first | omega | (simp only [blk_some, hi1_some] at *; omega))
           replace hb2 := hb2.out hoE (by first | omega | (simp only [blk_some, hi1_some] at *; omega))
           replace hb3 := hb3.out hoE (by first | omega | (simp only [blk_some, hi1_some] at *; omega))
           replace hlp0 := hlp0.step hoE (by first | omega | (simp only [blk_some, hi1_some] at *; omega))
           replace hb8 := hb8.out hoE (by first | omega | (simp only [blk_some, hi1_some] at *; omega))
           replace hbl178 := hbl178.out hoE (by first | omega | (simp only [blk_some, hi1_some] at *; omega))
           have hrnhSS := hSS.rng
           replace hSS := hSS.out hoE (by first | omega | (simp only [blk_some, hi1_some] at *; omega))
           have hESr1 := hES.rng
           refine st (asS rfl) ?_
           refine st (asS rfl) ?_
           refine rg_end ?_
           refine n_blk ?_
           refine n_then ?_
           refine rg ?_
           refine st (mvI rfl) ?_
           refine st (y_add rfl rfl (by omega)) ?_
           refine st (asI rfl) ?_
           refine rg_end ?_
           exact n_then ⟨(k + 1, _, _, _, _, _, _), _, rfl, same_lk rfl (same_h0), ⟨rfl, rfl, rfl, trivial⟩, ⟨hlp0, by omega, hca1, hss1, hes1, hSS.wide (by omega), hES.wide (by omega), by first | omega | (dsimp only; omega)⟩, by first | omega | (dsimp only; omega)⟩
          exact p_last
       ·
        have hg42n := hg42; try simp only [nm] at hg42n
        refine tns rfl rfl hg42 ?_
        refine tns rfl rfl hg42 ?_
        refine tns rfl rfl hg42 ?_
        refine t_end ?_
        have hz192 := hx38.size
        replace hN := hN.ext hx38
        replace hA := hA.ext hx38
        replace hSg := hSg.ext hx38
        replace hE := hE.step hx38 (.inl (Nat.le_refl _))
        replace hb2 := hb2.ext hx38
        replace hb3 := hb3.ext hx38
        replace hSS := hSS.ext hx38
        replace hES := hES.ext hx38
        replace hlp0 := hlp0.step hx38 (.inl (Nat.le_refl _))
        replace hAk := hAk.ext hx38
        refine sts rfl rfl hg42 ?_
        refine sts rfl rfl hg42 ?_
        refine sts rfl rfl hg42 ?_
        refine stg rfl rfl hg40 (y_pickF rfl hg42 (v := .bool _) rfl) ?_
        refine st (y_pickF rfl hg40 (v := .bool _) rfl) ?_
        refine rg_end ?_
        refine n_then ?_
        refine cnd rfl (fun hc2 => absurd hc2 (by decide)) (fun hc2 => ?_)
        have hi0 : 0 ≤ el arcs (k : Int) ∧ el arcs (k : Int) < N.acts.length := by omega
        have hnm : ¬ el arcs (k : Int) ∈ arcs.take k := by assumption
        have hsg : el signs (k : Int) = 1 ∨ el signs (k : Int) = -1 := by omega
        have hca1 := hca_.succ hi0.1 hi0.2 hsg (fun i hi e => hnm (by rw [← e]; exact tk_mem hi (by omega)))
        refine wp_skip ?_
        refine n_then ?_
        refine wp_seq ?_
        refine rgD 10 (fun w_ => Ext w33 w_) (fun i => Nat.beq i 9) mixed (by kernel_rfl) ?_
        intro w193 ho194 hs195
        refine ⟨ho194, ?_⟩
        have hx196 := ho194
        refine tn rfl (fun _ hG => y_fld fld26_2 rfl) ?_
        refine tn rfl (fun _ hG => y_lb (hb2.ext hG) na24 rfl rfl) ?_
        refine tn rfl (fun _ hG => y_fld fld58_0 rfl) ?_
        refine tn rfl (fun _ hG => y_lb (hb3.ext hG) na22 rfl rfl) ?_
        refine tn rfl (fun _ hG => mvI rfl) ?_
        refine tn rfl (fun _ hG => y_ix (hA.ext hG) sl22 rfl (rfl) rfl (by omega) (by omega)) ?_
        refine tn rfl (fun _ hG => y_le (hA.ext hG) na3 rfl (by omega) (by omega) rfl) ?_
        refine tn rfl (fun _ hG => y_ix (hN.a.ext hG) sl24 rfl (rfl) rfl (by omega) (by omega)) ?_
        refine tn rfl (fun _ hG => y_lw (hN.a.ext hG) agg36 rfl (by omega) (by omega)) ?_
        refine td rfl (d_allocA zer36 ?_)
        intro b8 w197 hbb8 hs199 ho198 hb8
        have hx200 := hx196.step ho198 (.inl (Nat.le_refl _))
        have hz201 := ho198.size
        refine ⟨hx200, ?_⟩
        refine t_end ?_
        have hz202 := hx200.size
        replace hN := hN.ext hx200
        replace hA := hA.ext hx200
        replace hSg := hSg.ext hx200
        replace hE := hE.step hx200 (.inl (Nat.le_refl _))
        replace hb2 := hb2.ext hx200
        replace hb3 := hb3.ext hx200
        replace hSS := hSS.ext hx200
        replace hES := hES.ext hx200
        replace hlp0 := hlp0.step hx200 (.inl (Nat.le_refl _))
        refine sd0 (d_stN hb8 rfl rfl sz36 rfl rfl ?_)
        intro w203 hs205 ho204 hb8'
        clear hb8; have hb8 := hb8'; clear hb8'
        have hz206 := ho204.size
        replace hN := hN.out ho204 (by first | omega | (simp only [blk_some, hi1_some] at *; omega))
        replace hA := hA.out ho204 (by first | omega | (simp only [blk_some, hi1_some] at *; omega))
        replace hSg := hSg.out ho204 (by first | omega | (simp only [blk_some, hi1_some] at *; omega))
        replace hE := hE.step ho204 (by first | omega | (simp only [blk_some, hi1_some] at *; omega))
        replace hb2 := hb2.out ho204 (by first | omega | (simp only [blk_some, hi1_some] at *; omega))
        replace hb3 := hb3.out ho204 (by first | omega | (simp only [blk_some, hi1_some] at *; omega))
        have hrnhSS := hSS.rng
        replace hSS := hSS.out ho204 (by first | omega | (simp only [blk_some, hi1_some] at *; omega))
        have hrnhES := hES.rng
        replace hES := hES.out ho204 (by first | omega | (simp only [blk_some, hi1_some] at *; omega))
        replace hlp0 := hlp0.step ho204 (by first | omega | (simp only [blk_some, hi1_some] at *; omega))
        refine rg_end ?_
        refine n_then ?_
        refine wp_seq ?_
        refine rg ?_
        refine st (y_fld fld58_1 rfl) ?_
        refine st (y_lb hb3 na22 rfl rfl) ?_
        refine st (mvI rfl) ?_
        refine st (y_ix hSg sl22 rfl (rfl) rfl (by omega) (by omega)) ?_
        refine st (y_le hSg na3 rfl (by omega) (by omega) rfl) ?_
        refine st (y_gtr rfl rfl) ?_
        refine rg_end ?_
        refine n_then ?_
        refine cnd rfl (fun hc3 => ?_) (fun hc3 => ?_)
        ·
         try simp only [nm] at hc3
         have e1 : stK N arcs signs k = (el N.acts (el arcs (k : Int))).fr := by unfold stK cySt; rw [if_neg (by omega)]
         have e2 : enK N arcs signs k = (el N.acts (el arcs (k : Int))).tt := by unfold enK cyEn; rw [if_neg (by omega)]
         obtain ⟨zk, hzk⟩ : ∃ z, z = w203.heap.size := ⟨_, rfl⟩
         have hSSr := hSS.rng
         have hESr := hES.rng
         have hss1 : ss ++ [(el N.acts (el arcs (k : Int))).fr] = (List.range (k + 1)).map (stK N arcs signs) := by rw [List.range_succ, List.map_append, hss, ← e1]; rfl
         have hes1 : es ++ [(el N.acts (el arcs (k : Int))).tt] = (List.range (k + 1)).map (enK N arcs signs) := by rw [List.range_succ, List.map_append, hes, ← e2]; rfl
         refine rgP 9 (fun w_ => Out (blk as_) (hi1 as_) w203 w_) (fun i => Nat.beq i 3 || Nat.beq i 4 || Nat.beq i 8) (.step 0 (.step 1 (.step 2 (.step 5 (.step 6 (.step 7 (.fork 3 (.fork 4 (.step 8 (.done)) (.fork 8 (.step 4 (.done)) (.last))) (.fork 8 (.step 3 (.step 4 (.done))) (.last))))))))) mixed (by kernel_rfl) ?_
         intro w207 ho208 hs209
         refine ⟨ho208.wide (.inl (Nat.le_refl _)), ?_⟩
         have hx210 := ho208.wide (a' := (blk as_)) (b' := (hi1 as_)) (.inl (Nat.le_refl _))
         replace hSS := hSS.ext ho208
         replace hES := hES.ext ho208
         refine p_step rfl ?_
         refine tn rfl (fun _ hG => mvS rfl) ?_
         refine t_end ?_
         refine p_step rfl ?_
         refine tn rfl (fun _ hG => y_fld fld36_1 rfl) ?_
         refine t_end ?_
         refine p_step rfl ?_
         refine tn rfl (fun _ hG => y_lb (hb8.out hG (by first | omega | (simp only [blk_some, hi1_some] at *; omega))) na3 rfl rfl) ?_
         refine t_end ?_
         refine p_step rfl ?_
         refine tn rfl (fun _ hG => mvS rfl) ?_
         refine t_end ?_
         refine p_step rfl ?_
         refine tn rfl (fun _ hG => y_fld fld36_2 rfl) ?_
         refine t_end ?_
         refine p_step rfl ?_
         refine tn rfl (fun _ hG => y_lb (hb8.out hG (by first | omega | (simp only [blk_some, hi1_some] at *; omega))) na3 rfl rfl) ?_
         refine t_end ?_
         refine p_fork ?_ ?_
         ·
          refine p_step rfl ?_
          refine td rfl (d_bs (bsl22_1 _ _) rfl ?_)
          intro bl214 w211 hbbl214 hs213 ho212 hbl214
          have hx215 := hx210.step ho212 (.inl (Nat.le_refl _))
          have hz216 := ho212.size
          replace hES := hES.ext ho212
          replace hSS := hSS.ext ho212
          refine ⟨hx215, ?_⟩
          refine t_end ?_
          refine p_fork ?_ ?_
          ·
           refine p_step rfl ?_
           have hrhSS := hSS.rng
           refine td rfl (d_appA (xs := [(el N.acts (el arcs (k : Int))).fr]) hSS sl22 infoz3 (by decide) rfl rfl rfl rfl (hbl214) (fun _ => rfl) (by simp; unfold maxLen; omega) (by simp; omega) (by omega) (by omega) ?_)
           intro as1 cs1 w217 hat1 hoS hSS'
           have hs218 := hoS.size
           clear hSS; have hSS := hSS'; clear hSS'
           have hx221 : Out (blk as_) (hi1 as_) w203 w217 := hx215.step hoS (by first | omega | (simp only [blk_some, hi1_some] at *; omega))
           replace hES := hES.out hoS (by first | omega | (simp only [blk_some, hi1_some] at *; omega))
           replace hbl214 := hbl214.out hoS (by first | omega | (simp only [blk_some, hi1_some] at *; omega))
           refine ⟨hx221, ?_⟩
           have hSSr1 := hSS.rng
           refine t_end ?_
           refine p_step rfl ?_
           refine td rfl (d_bs (bsl22_1 _ _) rfl ?_)
           intro bl225 w222 hbbl225 hs224 ho223 hbl225
           have hx226 := hx221.step ho223 (.inl (Nat.le_refl _))
           have hz227 := ho223.size
           replace hES := hES.ext ho223
           replace hSS := hSS.ext ho223
           replace hbl214 := hbl214.ext ho223
           refine ⟨hx226, ?_⟩
           refine t_end ?_
           refine p_done ?_
           have hz228 := hx226.size
           replace hN := hN.out hx226 (by first | omega | (simp only [blk_some, hi1_some] at *; omega))
           replace hA := hA.out hx226 (by first | omega | (simp only [blk_some, hi1_some] at *; omega))
           replace hSg := hSg.out hx226 (by first | omega | (simp only [blk_some, hi1_some] at *; omega))
           replace hE := hE.step hx226 (by first | omega | (simp only [blk_some, hi1_some] at *; omega))
           replace hb2 := hb2.out hx226 (by first | omega | (simp only [blk_some, hi1_some] at *; omega))
           replace hb3 := hb3.out hx226 (by first | omega | (simp only [blk_some, hi1_some] at *; omega))
           replace hlp0 := hlp0.step hx226 (by first | omega | (simp only [blk_some, hi1_some] at *; omega))
           replace hb8 := hb8.out hx226 (by first | omega | (simp only [blk_some, hi1_some] at *; omega))
           have hrhES := hES.rng
           refine sd (d_appA (xs := [(el N.acts (el arcs (k : Int))).tt]) hES sl22 infoz3 (by decide) rfl rfl rfl rfl (hbl225) (fun _ => rfl) (by simp; unfold maxLen; omega) (by simp; omega) (by omega) (by omega) ?_)
           intro ae1 ce1 w229 hat2 hoE hES'
           have hs230 := hoE.size
           clear hES; have hES := hES'; clear hES'
           have hz233 := hoE.size
           replace hN := hN.out hoE (by first | omega | (simp only [blk_some, hi1_some] at *; omega))
           replace hA := hA.out hoE (by first | omega | (simp only [blk_some, hi1_some] at *; omega))
           replace hSg := hSg.out hoE (by first | omega | (simp only [blk_some, hi1_some] at *; omega))
           replace hE := hE.step hoE (by first | omega | (simp only [blk_some, hi1_some] at *; omega))
           replace hb2 := hb2.out hoE (by first | omega | (simp only [blk_some, hi1_some] at *; omega))
           replace hb3 := hb3.out hoE (by first | omega | (simp only [blk_some, hi1_some] at *; omega))
           replace hlp0 := hlp0.step hoE (by first | omega | (simp only [blk_some, hi1_some] at *; omega))
           replace hb8 := hb8.out hoE (by first | omega | (simp only [blk_some, hi1_some] at *; omega))
           replace hbl214 := hbl214.out hoE (by first | omega | (simp only [blk_some, hi1_some] at *; omega))
           have hrnhSS := hSS.rng
           replace hSS := hSS.out hoE (by first | omega | (simp only [blk_some, hi1_some] at *; omega))
           have hESr1 := hES.rng
           refine st (asS rfl) ?_
           refine st (asS rfl) ?_
           refine rg_end ?_
           refine n_blk ?_
           refine n_then ?_
           refine rg ?_
           refine st (mvI rfl) ?_
           refine st (y_add rfl rfl (by omega)) ?_
           refine st (asI rfl) ?_
           refine rg_end ?_
           exact n_then ⟨(k + 1, _, _, _, _, _, _), _, rfl, same_lk rfl (same_h0), ⟨rfl, rfl, rfl, trivial⟩, ⟨hlp0, by omega, hca1, hss1, hes1, hSS.wide (by omega), hES.wide (by omega), by first | omega | (dsimp only; omega)⟩, by first | omega | (dsimp only; omega)⟩
          refine p_fork ?_ ?_
          ·
           refine p_step rfl ?_
           refine td rfl (d_bs (bsl22_1 _ _) rfl ?_)
           intro bl237 w234 hbbl237 hs236 ho235 hbl237
           have hx238 := hx215.step ho235 (.inl (Nat.le_refl _))
           have hz239 := ho235.size
           replace hES := hES.ext ho235
           replace hSS := hSS.ext ho235
           replace hbl214 := hbl214.ext ho235
           refine ⟨hx238, ?_⟩
           refine t_end ?_
           refine p_step rfl ?_
           have hrhSS := hSS.rng
           refine td rfl (d_appA (xs := [(el N.acts (el arcs (k : Int))).fr]) hSS sl22 infoz3 (by decide) rfl rfl rfl rfl (hbl214) (fun _ => rfl) (by simp; unfold maxLen; omega) (by simp; omega) (by omega) (by omega) ?_)
           intro as1 cs1 w240 hat1 hoS hSS'
           have hs241 := hoS.size
           clear hSS; have hSS := hSS'; clear hSS'
           have hx244 : Out (blk as_) (hi1 as_) w203 w240 := hx238.step hoS (by first | omega | (simp only [blk_some, hi1_some] at *; omega))
           replace hES := hES.out hoS (by first | omega | (simp only [blk_some, hi1_some] at *; omega))
           replace hbl214 := hbl214.out hoS (by first | omega | (simp only [blk_some, hi1_some] at *; omega))
           replace hbl237 := hbl237.out hoS (by first | omega | (simp only [blk_some, hi1_some] at *; omega))
           refine ⟨hx244, ?_⟩
           have hSSr1 := hSS.rng
           refine t_end ?_
           refine p_done ?_
           have hz245 := hx244.size
           replace hN := hN.out hx244 (by first | omega | (simp only [blk_some, hi1_some] at *; omega))
           replace hA := hA.out hx244 (by first | omega | (simp only [blk_some, hi1_some] at *; omega))
           replace hSg := hSg.out hx244 (by first | omega | (simp only [blk_some, hi1_some] at *; omega))
           replace hE := hE.step hx244 (by first | omega | (simp only [blk_some, hi1_some] at *; omega))
           replace hb2 := hb2.out hx244 (by first | omega | (simp only [blk_some, hi1_some] at *; omega))
           replace hb3 := hb3.out hx244 (by first | omega | (simp only [blk_some, hi1_some] at *; omega))
           replace hlp0 := hlp0.step hx244 (by first | omega | (simp only [blk_some, hi1_some] at *; omega))
           replace hb8 := hb8.out hx244 (by first | omega | (simp only [blk_some, hi1_some] at *; omega))
           have hrhES := hES.rng
           refine sd (d_appA (xs := [(el N.acts (el arcs (k : Int))).tt]) hES sl22 infoz3 (by decide) rfl rfl rfl rfl (hbl237) (fun _ => rfl) (by simp; unfold maxLen; omega) (by simp; omega) (by omega) (by omega) ?_)
           intro ae1 ce1 w246 hat2 hoE hES'
           have hs247 := hoE.size
           clear hES; have hES := hES'; clear hES'
           have hz250 := hoE.size
           replace hN := hN.out hoE (by first | omega | (simp only [blk_some, hi1_some] at *; omega))
           replace hA := hA.out hoE (by first | omega | (simp only [blk_some, hi1_some] at *; omega))
           replace hSg := hSg.out hoE (by first | omega | (simp only [blk_some, hi1_some] at *; omega))
           replace hE := hE.step hoE (by first | omega | (simp only [blk_some, hi1_some] at *; omega))
           replace hb2 := hb2.out hoE (by first | omega | (simp only [blk_some, hi1_some] at *; omega))
           replace hb3 := hb3.out hoE (by first | omega | (simp only [blk_some, hi1_some] at *; omega))
           replace hlp0 := hlp0.step hoE (by first | omega | (simp only [blk_some, hi1_some] at *; omega))
           replace hb8 := hb8.out hoE (by first | omega | (simp only [blk_some, hi1_some] at *; omega))
           replace hbl214 := hbl214.out hoE (by first | omega | (simp only [blk_some, hi1_some] at *; omega))
           have hrnhSS := hSS.rng
           replace hSS := hSS.out hoE (by first | omega | (simp only [blk_some, hi1_some] at *; omega))
           have hESr1 := hES.rng
           refine st (asS rfl) ?_
           refine st (asS rfl) ?_
           refine rg_end ?_
           refine n_blk ?_
           refine n_then ?_
           refine rg ?_
           refine st (mvI rfl) ?_
           refine st (y_add rfl rfl (by omega)) ?_
           refine st (asI rfl) ?_
           refine rg_end ?_
           exact n_then ⟨(k + 1, _, _, _, _, _, _), _, rfl, same_lk rfl (same_h0), ⟨rfl, rfl, rfl, trivial⟩, ⟨hlp0, by omega, hca1, hss1, hes1, hSS.wide (by omega), hES.wide (by omega), by first | omega | (dsimp only; omega)⟩, by first | omega | (dsimp only; omega)⟩
          exact p_last
         refine p_fork ?_ ?_
         ·
          refine p_step rfl ?_
          refine td rfl (d_bs (bsl22_1 _ _) rfl ?_)
          intro bl254 w251 hbbl254 hs253 ho252 hbl254
          have hx255 := hx210.step ho252 (.inl (Nat.le_refl _))
          have hz256 := ho252.size
          replace hES := hES.ext ho252
          replace hSS := hSS.ext ho252
          refine ⟨hx255, ?_⟩
          refine t_end ?_
          refine p_step rfl ?_
          refine td rfl (d_bs (bsl22_1 _ _) rfl ?_)
          intro bl260 w257 hbbl260 hs259 ho258 hbl260
          have hx261 := hx255.step ho258 (.inl (Nat.le_refl _))
          have hz262 := ho258.size
          replace hES := hES.ext ho258
          replace hSS := hSS.ext ho258
          replace hbl254 := hbl254.ext ho258
          refine ⟨hx261, ?_⟩
          refine t_end ?_
          refine p_step rfl ?_
          have hrhSS := hSS.rng
          refine td rfl (d_appA (xs := [(el N.acts (el arcs (k : Int))).fr]) hSS sl22 infoz3 (by decide) rfl rfl rfl rfl (hbl260) (fun _ => rfl) (by simp; unfold maxLen; omega) (by simp; omega) (by omega) (by omega) ?_)
          intro as1 cs1 w263 hat1 hoS hSS'
          have hs264 := hoS.size
          clear hSS; have hSS := hSS'; clear hSS'
          have hx267 : Out (blk as_) (hi1 as_) w203 w263 := hx261.step hoS (by first | omega | (simp only [blk_some, hi1_some] at *; omega))
          replace hES := hES.out hoS (by first | omega | (simp only [blk_some, hi1_some] at *; omega))
          replace hbl254 := hbl254.out hoS (by first | omega | (simp only [blk_some, hi1_some] at *; omega))
          replace hbl260 := hbl260.out hoS (by first | omega | (simp only [blk_some, hi1_some] at *; omega))
          refine ⟨hx267, ?_⟩
          have hSSr1 := hSS.rng
          refine t_end ?_
          refine p_done ?_
          have hz268 := hx267.size
          replace hN := hN.out hx267 (by first | omega | (simp only [blk_some, hi1_some] at *; omega))
          replace hA := hA.out hx267 (by first | omega | (simp only [blk_some, hi1_some] at *; omega))
          replace hSg := hSg.out hx267 (by first | omega | (simp only [blk_some, hi1_some] at *; omega))
          replace hE := hE.step hx267 (by first | omega | (simp only [blk_some, hi1_some] at *; omega))
          replace hb2 := hb2.out hx267 (by first | omega | (simp only [blk_some, hi1_some] at *; omega))
          replace hb3 := hb3.out hx267 (by first | omega | (simp only [blk_some, hi1_some] at *; omega))
          replace hlp0 := hlp0.step hx267 (by first | omega | (simp only [blk_some, hi1_some] at *; omega))
          replace hb8 := hb8.out hx267 (by first | omega | (simp only [blk_some, hi1_some] at *; omega))
          have hrhES := hES.rng
          refine sd (d_appA (xs := [(el N.acts (el arcs (k : Int))).tt]) hES sl22 infoz3 (by decide) rfl rfl rfl rfl (hbl254) (fun _ => rfl) (by simp; unfold maxLen; omega) (by simp; omega) (by omega) (by omega) ?_)
          intro ae1 ce1 w269 hat2 hoE hES'
          have hs270 := hoE.size
          clear hES; have hES := hES'; clear hES'
          have hz273 := hoE.size
          replace hN := hN.out hoE (by first | omega | (simp only [blk_some, hi1_some] at *; omega))
          replace hA := hA.out hoE (by first | omega | (simp only [blk_some, hi1_some] at *; omega))
          replace hSg := hSg.out hoE (by first | omega | (simp only [blk_some, hi1_some] at *; omega))
          replace hE := hE.step hoE (by first | omega | (simp only [blk_some, hi1_some] at *; omega))
          replace hb2 := hb2.out hoE (by first | omega | (simp only [blk_some, hi1_some] at *; omega))
          replace hb3 := hb3.out hoE (by first | omega | (simp only [blk_some, hi1_some] at *; omega))
          replace hlp0 := hlp0.step hoE (by first | omega | (simp only [blk_some, hi1_some] at *; omega))
          replace hb8 := hb8.out hoE (by first | omega | (simp only [blk_some, hi1_some] at *; omega))
          replace hbl260 := hbl260.out hoE (by first | omega | (simp only [blk_some, hi1_some] at *; omega))
          have hrnhSS := hSS.rng
          replace hSS := hSS.out hoE (by first | omega | (simp only [blk_some, hi1_some] at *; omega))
          have hESr1 := hES.rng
          refine st (asS rfl) ?_
          refine st (asS rfl) ?_
          refine rg_end ?_
          refine n_blk ?_
          refine n_then ?_
          refine rg ?_
          refine st (mvI rfl) ?_
          refine st (y_add rfl rfl (by omega)) ?_
          refine st (asI rfl) ?_
          refine rg_end ?_
          exact n_then ⟨(k + 1, _, _, _, _, _, _), _, rfl, same_lk rfl (same_h0), ⟨rfl, rfl, rfl, trivial⟩, ⟨hlp0, by omega, hca1, hss1, hes1, hSS.wide (by omega), hES.wide (by omega), by first | omega | (dsimp only; omega)⟩, by first | omega | (dsimp only; omega)⟩
         exact p_last
        ·
         try simp only [nm] at hc3
         have e1 : stK N arcs signs k = (el N.acts (el arcs (k : Int))).tt := by unfold stK cySt; rw [if_pos (by omega)]
         have e2 : enK N arcs signs k = (el N.acts (el arcs (k : Int))).fr := by unfold enK cyEn; rw [if_pos (by omega)]
         obtain ⟨zk, hzk⟩ : ∃ z, z = w203.heap.size := ⟨_, rfl⟩
         have hSSr := hSS.rng
         have hESr := hES.rng
         have hss1 : ss ++ [(el N.acts (el arcs (k : Int))).tt] = (List.range (k + 1)).map (stK N arcs signs) := by rw [List.range_succ, List.map_append, hss, ← e1]; rfl
         have hes1 : es ++ [(el N.acts (el arcs (k : Int))).fr] = (List.range (k + 1)).map (enK N arcs signs) := by rw [List.range_succ, List.map_append, hes, ← e2]; rfl
         refine rgP 9 (fun w_ => Out (blk as_) (hi1 as_) w203 w_) (fun i => Nat.beq i 3 || Nat.beq i 4 || Nat.beq i 8) (.step 0 (.step 1 (.step 2 (.step 5 (.step 6 (.step 7 (.fork 3 (.fork 4 (.step 8 (.done)) (.fork 8 (.step 4 (.done)) (.last))) (.fork 8 (.step 3 (.step 4 (.done))) (.last))))))))) mixed (by kernel_rfl) ?_
         intro w274 ho275 hs276
         refine ⟨ho275.wide (.inl (Nat.le_refl _)), ?_⟩
         have hx277 := ho275.wide (a' := (blk as_)) (b' := (hi1 as_)) (.inl (Nat.le_refl _))
         replace hSS := hSS.ext ho275
         replace hES := hES.ext ho275
         refine p_step rfl ?_
         refine tn rfl (fun _ hG => mvS rfl) ?_
         refine t_end ?_
         refine p_step rfl ?_
         refine tn rfl (fun _ hG => y_fld fld36_2 rfl) ?_
         refine t_end ?_
         refine p_step rfl ?_
         refine tn rfl (fun _ hG => y_lb (hb8.out hG (by first | omega | (simp only [blk_some, hi1_some] at *; omega))) na3 rfl rfl) ?_
         refine t_end ?_
         refine p_step rfl ?_
         refine tn rfl (fun _ hG => mvS rfl) ?_
         refine t_end ?_
         refine p_step rfl ?_
         refine tn rfl (fun _ hG => y_fld fld36_1 rfl) ?_
         refine t_end ?_
         refine p_step rfl ?_
         refine tn rfl (fun _ hG => y_lb (hb8.out hG (by first | omega | (simp only [blk_some, hi1_some] at *; omega))) na3 rfl rfl) ?_
         refine t_end ?_
         refine p_fork ?_ ?_
         ·
          refine p_step rfl ?_
          refine td rfl (d_bs (bsl22_1 _ _) rfl ?_)
          intro bl281 w278 hbbl281 hs280 ho279 hbl281
          have hx282 := hx277.step ho279 (.inl (Nat.le_refl _))
          have hz283 := ho279.size
          replace hES := hES.ext ho279
          replace hSS := hSS.ext ho279
          refine ⟨hx282, ?_⟩
          refine t_end ?_
          refine p_fork ?_ ?_
          ·
           refine p_step rfl ?_
           have hrhSS := hSS.rng
           refine td rfl (d_appA (xs := [(el N.acts (el arcs (k : Int))).tt]) hSS sl22 infoz3 (by decide) rfl rfl rfl rfl (hbl281) (fun _ => rfl) (by simp; unfold maxLen; omega) (by simp; omega) (by omega) (by omega) ?_)
           intro as1 cs1 w284 hat1 hoS hSS'
           have hs285 := hoS.size
           clear hSS; have hSS := hSS'; clear hSS'
           have hx288 : Out (blk as_) (hi1 as_) w203 w284 := hx282.step hoS (by first | omega | (simp only [blk_some, hi1_some] at *; omega))
           replace hES := hES.out hoS (by first | omega | (simp only [blk_some, hi1_some] at *; omega))
           replace hbl281 := hbl281.out hoS (by first | omega | (simp only [blk_some, hi1_some] at *; omega))
           refine ⟨hx288, ?_⟩
           have hSSr1 := hSS.rng
           refine t_end ?_
           refine p_step rfl ?_
           refine td rfl (d_bs (bsl22_1 _ _) rfl ?_)
           intro bl292 w289 hbbl292 hs291 ho290 hbl292
           have hx293 := hx288.step ho290 (.inl (Nat.le_refl _))
           have hz294 := ho290.size
           replace hES := hES.ext ho290
           replace hSS := hSS.ext ho290
           replace hbl281 := hbl281.ext ho290
           refine ⟨hx293, ?_⟩
           refine t_end ?_
           refine p_done ?_
           have hz295 := hx293.size
           replace hN := hN.out hx293 (by first | omega | (simp only [blk_some, hi1_some] at *; omega))
           replace hA := hA.out hx293 (by first | omega | (simp only [blk_some, hi1_some] at *; omega))
           replace hSg := hSg.out hx293 (by first | omega | (simp only [blk_some, hi1_some] at *; omega))
           replace hE := hE.step hx293 (by first | omega | (simp only [blk_some, hi1_some] at *; omega))
           replace hb2 := hb2.out hx293 (by first | omega | (simp only [blk_some, hi1_some] at *; omega))
           replace hb3 := hb3.out hx293 (by first | omega | (simp only [blk_some, hi1_some] at *; omega))
           replace hlp0 := hlp0.step hx293 (by first | omega | (simp only [blk_some, hi1_some] at *; omega))
           replace hb8 := hb8.out hx293 (by first | omega | (simp only [blk_some, hi1_some] at *; omega))
           have hrhES := hES.rng
           refine sd (d_appA (xs := [(el N.acts (el arcs (k : Int))).fr]) hES sl22 infoz3 (by decide) rfl rfl rfl rfl (hbl292) (fun _ => rfl) (by simp; unfold maxLen; omega) (by simp; omega) (by omega) (by omega) ?_)
           intro ae1 ce1 w296 hat2 hoE hES'
           have hs297 := hoE.size
           clear hES; have hES := hES'; clear hES'
           have hz300 := hoE.size
           replace hN := hN.out hoE (by first | omega | (simp only [blk_some, hi1_some] at *; omega))
           replace hA := hA.out hoE (by first | omega | (simp only [blk_some, hi1_some] at *; omega))
           replace hSg := hSg.out hoE (by first | omega | (simp only [blk_some, hi1_some] at *; omega))
           replace hE := hE.step hoE (by first | omega | (simp only [blk_some, hi1_some] at *; omega))
           replace hb2 := hb2.out hoE (by first | omega | (simp only [blk_some, hi1_some] at *; omega))
           replace hb3 := hb3.out hoE (by first | omega | (simp only [blk_some, hi1_some] at *; omega))
           replace hlp0 := hlp0.step hoE (by first | omega | (simp only [blk_some, hi1_some] at *; omega))
           replace hb8 := hb8.out hoE (by first | omega | (simp only [blk_some, hi1_some] at *; omega))
           replace hbl281 := hbl281.out hoE (by first | omega | (simp only [blk_some, hi1_some] at *; omega))
           have hrnhSS := hSS.rng
           replace hSS := hSS.out hoE (by first | omega | (simp only [blk_some, hi1_some] at *; omega))
           have hESr1 := hES.rng
           refine st (asS rfl) ?_
           refine st (asS rfl) ?_
           refine rg_end ?_
           refine n_blk ?_
           refine n_then ?_
           refine rg ?_
           refine st (mvI rfl) ?_
           refine st (y_add rfl rfl (by omega)) ?_
           refine st (asI rfl) ?_
           refine rg_end ?_
           exact n_then ⟨(k + 1, _, _, _, _, _, _), _, rfl, same_lk rfl (same_h0), ⟨rfl, rfl, rfl, trivial⟩, ⟨hlp0, by omega, hca1, hss1, hes1, hSS.wide (by omega), hES.wide (by omega), by first | omega | (dsimp only; omega)⟩, by first | omega | (dsimp only; omega)⟩
          refine p_fork ?_ ?_
          ·
           refine p_step rfl ?_
           refine td rfl (d_bs (bsl22_1 _ _) rfl ?_)
           intro bl304 w301 hbbl304 hs303 ho302 hbl304
           have hx305 := hx282.step ho302 (.inl (Nat.le_refl _))
           have hz306 := ho302.size
           replace hES := hES.ext ho302
           replace hSS := hSS.ext ho302
           replace hbl281 := hbl281.ext ho302
           refine ⟨hx305, ?_⟩
           refine t_end ?_
           refine p_step rfl ?_
           have hrhSS := hSS.rng
           refine td rfl (d_appA (xs := [(el N.acts (el arcs (k : Int))).tt]) hSS sl22 infoz3 (by decide) rfl rfl rfl rfl (hbl281) (fun _ => rfl) (by simp; unfold maxLen; omega) (by simp; omega) (by omega) (by omega) ?_)
           intro as1 cs1 w307 hat1 hoS hSS'
           have hs308 := hoS.size
           clear hSS; have hSS := hSS'; clear hSS'
           have hx311 : Out (blk as_) (hi1 as_) w203 w307 := hx305.step hoS (by first | omega | (simp only [blk_some, hi1_some] at *; omega))
           replace hES := hES.out hoS (by first | omega | (simp only [blk_some, hi1_some] at *; omega))
           replace hbl281 := hbl281.out hoS (by first | omega | (simp only [blk_some, hi1_some] at *; omega))
           replace hbl304 := hbl304.out hoS (by first | omega | (simp only [blk_some, hi1_some] at *; omega))
           refine ⟨hx311, ?_⟩
           have hSSr1 := hSS.rng
           refine t_end ?_
           refine p_done ?_
           have hz312 := hx311.size
           replace hN := hN.out hx311 (by first | omega | (simp only [blk_some, hi1_some] at *; omega))
           replace hA := hA.out hx311 (by first | omega | (simp only [blk_some, hi1_some] at *; omega))
           replace hSg := hSg.out hx311 (by first | omega | (simp only [blk_some, hi1_some] at *; omega))
           replace hE := hE.step hx311 (by first | omega | (simp only [blk_some, hi1_some] at *; omega))
           replace hb2 := hb2.out hx311 (by first | omega | (simp only [blk_some, hi1_some] at *; omega))
           replace hb3 := hb3.out hx311 (by first | omega | (simp only [blk_some, hi1_some] at *; omega))
           replace hlp0 := hlp0.step hx311 (by first | omega | (simp only [blk_some, hi1_some] at *; omega))
           replace hb8 := hb8.out hx311 (by first | omega | (simp only [blk_some, hi1_some] at *; omega))
           have hrhES := hES.rng
           refine sd (d_appA (xs := [(el N.acts (el arcs (k : Int))).fr]) hES sl22 infoz3 (by decide) rfl rfl rfl rfl (hbl304) (fun _ => rfl) (by simp; unfold maxLen; omega) (by simp; omega) (by omega) (by omega) ?_)
           intro ae1 ce1 w313 hat2 hoE hES'
           have hs314 := hoE.size
           clear hES; have hES := hES'; clear hES'
           have hz317 := hoE.size
           replace hN := hN.out hoE (by first | omega | (simp only [blk_some, hi1_some] at *; omega))
           replace hA := hA.out hoE (by first | omega | (simp only [blk_some, hi1_some] at *; omega))
           replace hSg := hSg.out hoE (by first | omega | (simp only [blk_some, hi1_some] at *; omega))
           replace hE := hE.step hoE (by first | omega | (simp only [blk_some, hi1_some] at *; omega))
           replace hb2 := hb2.out hoE (by first | omega | (simp only [blk_some, hi1_some] at *; omega))
           replace hb3 := hb3.out hoE (by first | omega | (simp only [blk_some, hi1_some] at *; omega))
           replace hlp0 := hlp0.step hoE (by first | omega | (simp only [blk_some, hi1_some] at *; omega))
           replace hb8 := hb8.out hoE (by first | omega | (simp only [blk_some, hi1_some] at *; omega))
           replace hbl281 := hbl281.out hoE (by first | omega | (simp only [blk_some, hi1_some] at *; omega))
           have hrnhSS := hSS.rng
           replace hSS := hSS.out hoE (by first | omega | (simp only [blk_some, hi1_some] at *; omega))
           have hESr1 := hES.rng
           refine st (asS rfl) ?_
           refine st (asS rfl) ?_
           refine rg_end ?_
           refine n_blk ?_
           refine n_then ?_
           refine rg ?_
           refine st (mvI rfl) ?_
           refine st (y_add rfl rfl (by omega)) ?_
           refine st (asI rfl) ?_
           refine rg_end ?_
           exact n_then ⟨(k + 1, _, _, _, _, _, _), _, rfl, same_lk rfl (same_h0), ⟨rfl, rfl, rfl, trivial⟩, ⟨hlp0, by omega, hca1, hss1, hes1, hSS.wide (by omega), hES.wide (by omega), by first | omega | (dsimp only; omega)⟩, by first | omega | (dsimp only; omega)⟩
          exact p_last
         refine p_fork ?_ ?_
         ·
          refine p_step rfl ?_
          refine td rfl (d_bs (bsl22_1 _ _) rfl ?_)
          intro bl321 w318 hbbl321 hs320 ho319 hbl321
          have hx322 := hx277.step ho319 (.inl (Nat.le_refl _))
          have hz323 := ho319.size
          replace hES := hES.ext ho319
          replace hSS := hSS.ext ho319
          refine ⟨hx322, ?_⟩
          refine t_end ?_
          refine p_step rfl ?_
          refine td rfl (d_bs (bsl22_1 _ _) rfl ?_)
          intro bl327 w324 hbbl327 hs326 ho325 hbl327
          have hx328 := hx322.step ho325 (.inl (Nat.le_refl _))
          have hz329 := ho325.size
          replace hES := hES.ext ho325
          replace hSS := hSS.ext ho325
          replace hbl321 := hbl321.ext ho325
          refine ⟨hx328, ?_⟩
          refine t_end ?_
          refine p_step rfl ?_
          have hrhSS := hSS.rng
          refine td rfl (d_appA (xs := [(el N.acts (el arcs (k : Int))).tt]) hSS sl22 infoz3 (by decide) rfl rfl rfl rfl (hbl327) (fun _ => rfl) (by simp; unfold maxLen; omega) (by simp; omega) (by omega) (by omega) ?_)
          intro as1 cs1 w330 hat1 hoS hSS'
          have hs331 := hoS.size
          clear hSS; have hSS := hSS'; clear hSS'
          have hx334 : Out (blk as_) (hi1 as_) w203 w330 := hx328.step hoS (by first | omega | (simp only [blk_some, hi1_some] at *; omega))
          replace hES := hES.out hoS (by first | omega | (simp only [blk_some, hi1_some] at *; omega))
          replace hbl321 := hbl321.out hoS (by first | omega | (simp only [blk_some, hi1_some] at *; omega))
          replace hbl327 := hbl327.out hoS (by first | omega | (simp only [blk_some, hi1_some] at *; omega))
          refine ⟨hx334, ?_⟩
          have hSSr1 := hSS.rng
          refine t_end ?_
          refine p_done ?_
          have hz335 := hx334.size
          replace hN := hN.out hx334 (by first | omega | (simp only [blk_some, hi1_some] at *; omega))
          replace hA := hA.out hx334 (by first | omega | (simp only [blk_some, hi1_some] at *; omega))
          replace hSg := hSg.out hx334 (by first | omega | (simp only [blk_some, hi1_some] at *; omega))
          replace hE := hE.step hx334 (by first | omega | (simp only [blk_some, hi1_some] at *; omega))
          replace hb2 := hb2.out hx334 (by first | omega | (simp only [blk_some, hi1_some] at *; omega))
          replace hb3 := hb3.out hx334 (by first | omega | (simp only [blk_some, hi1_some] at *; omega))
          replace hlp0 := hlp0.step hx334 (by first | omega | (simp only [blk_some, hi1_some] at *; omega))
          replace hb8 := hb8.out hx334 (by first | omega | (simp only [blk_some, hi1_some] at *; omega))
          have hrhES := hES.rng
          refine sd (d_appA (xs := [(el N.acts (el arcs (k : Int))).fr]) hES sl22 infoz3 (by decide) rfl rfl rfl rfl (hbl321) (fun _ => rfl) (by simp; unfold maxLen; omega) (by simp; omega) (by omega) (by omega) ?_)
          intro ae1 ce1 w336 hat2 hoE hES'
          have hs337 := hoE.size
          clear hES; have hES := hES'; clear hES'
          have hz340 := hoE.size
          replace hN := hN.out hoE (by first | omega | (simp only [blk_some, hi1_some] at *; omega))
          replace hA := hA.out hoE (by first | omega | (simp only [blk_some, hi1_some] at *; omega))
          replace hSg := hSg.out hoE (by first | omega | (simp only [blk_some, hi1_some] at *; omega))
          replace hE := hE.step hoE (by first | omega | (simp only [blk_some, hi1_some] at *; omega))
          replace hb2 := hb2.out hoE (by first | omega | (simp only [blk_some, hi1_some] at *; omega))
          replace hb3 := hb3.out hoE (by first | omega | (simp only [blk_some, hi1_some] at *; omega))
          replace hlp0 := hlp0.step hoE (by first | omega | (simp only [blk_some, hi1_some] at *; omega))
          replace hb8 := hb8.out hoE (by first | omega | (simp only [blk_some, hi1_some] at *; omega))
          replace hbl327 := hbl327.out hoE (by first | omega | (simp only [blk_some, hi1_some] at *; omega))
          have hrnhSS := hSS.rng
          replace hSS := hSS.out hoE (by first | omega | (simp only [blk_some, hi1_some] at *; omega))
          have hESr1 := hES.rng
          refine st (asS rfl) ?_
          refine st (asS rfl) ?_
          refine rg_end ?_
          refine n_blk ?_
          refine n_then ?_
          refine rg ?_
          refine st (mvI rfl) ?_
          refine st (y_add rfl rfl (by omega)) ?_
          refine st (asI rfl) ?_
          refine rg_end ?_
          exact n_then ⟨(k + 1, _, _, _, _, _, _), _, rfl, same_lk rfl (same_h0), ⟨rfl, rfl, rfl, trivial⟩, ⟨hlp0, by omega, hca1, hss1, hes1, hSS.wide (by omega), hES.wide (by omega), by first | omega | (dsimp only; omega)⟩, by first | omega | (dsimp only; omega)⟩
         exact p_last
    ·
     try simp only [nm] at hc1
     have hkl : k = arcs.length := by omega
     subst hkl
     have hsl : ss.length = arcs.length := by rw [hss]; simp
     have hel : es.length = arcs.length := by rw [hes]; simp
     have hcapS := hSS.lenLe
     refine wp_exit ?_
     refine e_then (e_then (e_blk (?_)))
     refine n_then ?_
     refine wp_seq ?_
     refine wp_seq ?_
     refine rg ?_
     refine st (asI rfl) ?_
     refine rg_end ?_
     refine n_then ?_
     refine wp_block ?_
     refine lp (γ := Nat) [4, 9, 109, 110, 111, 112, 113, 114, 115, 116, 117, 118, 119, 120, 121, 122, 123, 124, 125, 126, 127, 128, 129, 130, 131, 132, 133, 134, 135, 136, 137] (fun k => [(9, .int .i64 (k : Int))]) (fun k w_ => Ext w17 w_ ∧ (k : Int) ≤ arcs.length ∧ CyR N arcs signs k) (fun k => arcs.length - k) 0 ⟨rfl, trivial⟩ ⟨Out.refl _ _ _, by simp, CyR.zero⟩ ?_
     rintro k hav_ w341 ⟨ho342, hk, hcr⟩
     have hlp1 := ho342
     have hz343 := ho342.size
     replace hN := hN.ext ho342
     replace hA := hA.ext ho342
     replace hSg := hSg.ext ho342
     replace hE := hE.step ho342 (.inl (Nat.le_refl _))
     replace hb2 := hb2.ext ho342
     replace hb3 := hb3.ext ho342
     replace hSS := hSS.ext ho342
     replace hES := hES.ext ho342
     refine wp_seq ?_
     refine wp_seq ?_
     refine rg ?_
     refine st (mvI rfl) ?_
     refine st (mvS rfl) ?_
     refine st (y_len Try.underlying22 rfl) ?_
     refine st (y_lss rfl rfl) ?_
     refine rg_end ?_
     refine n_then ?_
     refine cnd rfl (fun hc4 => ?_) (fun hc4 => ?_)
     ·
      try simp only [nm] at hc4
      have hSk := Sl.take (Ow.sl hSS) k
      have hml := Nat.mod_lt (k + 1) (show 0 < arcs.length by omega)
      have v1 : el ss (((k + 1) % arcs.length : Nat) : Int) = stK N arcs signs ((k + 1) % arcs.length) := by rw [hss]; exact elRange hml
      have v2 : el es (k : Int) = enK N arcs signs k := by rw [hes]; exact elRange (by omega)
      have v3 : el ss (k : Int) = stK N arcs signs k := by rw [hss]; exact elRange (by omega)
      have v4 : ∀ i : Nat, i < k → el ss (i : Int) = stK N arcs signs i := fun i hi => by rw [hss]; exact elRange (by omega)
      have hmd : Int.tmod ((k : Int) + 1) (ss.length : Int) = (((k + 1) % arcs.length : Nat) : Int) := by rw [modN, hsl]
      refine wp_skip ?_
      refine n_then ?_
      refine wp_seq ?_
      refine wp_block ?_
      refine wp_seq ?_
      refine rgD 21 (fun w_ => Ext w341 w_) (fun i => false) mixed (by kernel_rfl) ?_
      intro w344 ho345 hs346
      refine ⟨ho345, ?_⟩
      have hx347 := ho345
      refine tn rfl (fun _ hG => mvS rfl) ?_
      refine tn rfl (fun _ hG => mvI rfl) ?_
      refine tn rfl (fun _ hG => y_add rfl rfl (by omega)) ?_
      refine tn rfl (fun _ hG => mvS rfl) ?_
      refine tn rfl (fun _ hG => y_len Try.underlying22 rfl) ?_
      refine tn rfl (fun _ hG => y_rem rfl rfl (by omega)) ?_
      rw [hmd]
      refine tn rfl (fun _ hG => y_ix (hSS.ext hG).sl sl22 rfl (rfl) rfl (by omega) (by omega)) ?_
      refine tn rfl (fun _ hG => y_le (hSS.ext hG).sl na3 rfl (by omega) (by omega) rfl) ?_
      refine tn rfl (fun _ hG => mvS rfl) ?_
      refine tn rfl (fun _ hG => mvI rfl) ?_
      refine tn rfl (fun _ hG => y_ix (hES.ext hG).sl sl22 rfl (rfl) rfl (by omega) (by omega)) ?_
      refine tn rfl (fun _ hG => y_le (hES.ext hG).sl na3 rfl (by omega) (by omega) rfl) ?_
      refine tn rfl (fun _ hG => y_neq rfl rfl) ?_
      refine tn rfl (fun _ hG => mvB rfl) ?_
      refine gspT 128 rfl (fun hg348 => ?_) (fun hg348 => ?_)
      ·
       have hg348n := hg348; try simp only [nm] at hg348n
       refine tns rfl rfl hg348 ?_
       refine tns rfl rfl hg348 ?_
       refine tns rfl rfl hg348 ?_
       refine tns rfl rfl hg348 ?_
       refine tns rfl rfl hg348 ?_
       refine tns rfl rfl hg348 ?_
       refine tns rfl rfl hg348 ?_
       refine t_end ?_
       have hz349 := hx347.size
       replace hN := hN.ext hx347
       replace hA := hA.ext hx347
       replace hSg := hSg.ext hx347
       replace hE := hE.step hx347 (.inl (Nat.le_refl _))
       replace hb2 := hb2.ext hx347
       replace hb3 := hb3.ext hx347
       replace hSS := hSS.ext hx347
       replace hES := hES.ext hx347
       replace hlp1 := hlp1.step hx347 (.inl (Nat.le_refl _))
       replace hSk := hSk.ext hx347
       refine sts rfl rfl hg348 ?_
       refine st (y_pickT rfl hg348 (v := .bool _) rfl) ?_
       refine rg_end ?_
       refine n_then ?_
       refine cnd rfl (fun hc5 => ?_) (fun hc5 => absurd hc5 (by decide))
       have hno : ¬ CyOk N arcs signs := fun h => by
         have h1 := cyb_nxt h.b (k := k) (by omega)
         first
         | omega
         | (obtain ⟨q, hq, he⟩ := mem_tk (show el ss (k : Int) ∈ ss.take k by assumption)
            exact h.b.dist q k hq (by omega) (by rw [← v4 q hq, he, v3]))
       refine wp_seq ?_
       refine rg ?_
       refine st (asB rfl) ?_
       refine rg_end ?_
       refine n_then ?_
       refine wp_ret ?_
       refine r_blk (r_then (r_then (r_blk (r_then (ret1 (v := (.bool _)) Try.results52 rfl ?_)))))
       exact ⟨false, rfl, ⟨fun h => (by cases h), fun h => absurd h hno⟩, hE⟩
      ·
       have hg348n := hg348; try simp only [nm] at hg348n
       refine tng rfl rfl rfl hg348 (fun _ hG => mvS rfl) ?_
       refine tng rfl rfl rfl hg348 (fun _ hG => mvI rfl) ?_
       refine tng rfl rfl rfl hg348 (fun _ hG => y_slh sl22 rfl rfl (by omega) (by omega)) ?_
       refine tng rfl rfl rfl hg348 (fun _ hG => mvS rfl) ?_
       refine tng rfl rfl rfl hg348 (fun _ hG => mvI rfl) ?_
       refine tng rfl rfl rfl hg348 (fun _ hG => y_ix (hSS.ext hG).sl sl22 rfl (rfl) rfl (by omega) (by omega)) ?_
       refine tng rfl rfl rfl hg348 (fun _ hG => y_le (hSS.ext hG).sl na3 rfl (by omega) (by omega) rfl) ?_
       refine t_end ?_
       have hz350 := hx347.size
       replace hN := hN.ext hx347
       replace hA := hA.ext hx347
       replace hSg := hSg.ext hx347
       replace hE := hE.step hx347 (.inl (Nat.le_refl _))
       replace hb2 := hb2.ext hx347
       replace hb3 := hb3.ext hx347
       replace hSS := hSS.ext hx347
       replace hES := hES.ext hx347
       replace hlp1 := hlp1.step hx347 (.inl (Nat.le_refl _))
       replace hSk := hSk.ext hx347
       refine scg rfl rfl hg348 cl49 (ref11_has_ok (ss.take k) _ _ _ _ (el ss (k : Int)) _ _ (by simp; omega) hSk (by simp; omega)) rfl ?_
       rintro v355 w351 ⟨rfl, ho352⟩
       have hz356 := ho352.size
       replace hN := hN.ext ho352
       replace hA := hA.ext ho352
       replace hSg := hSg.ext ho352
       replace hE := hE.step ho352 (.inl (Nat.le_refl _))
       replace hb2 := hb2.ext ho352
       replace hb3 := hb3.ext ho352
       replace hSS := hSS.ext ho352
       replace hES := hES.ext ho352
       replace hlp1 := hlp1.step ho352 (.inl (Nat.le_refl _))
       replace hSk := hSk.ext ho352
       refine st (y_pickF rfl hg348 (v := .bool _) rfl) ?_
       refine rg_end ?_
       refine n_then ?_
       refine cnd rfl (fun hc5 => ?_) (fun hc5 => ?_)
       ·
        try simp only [nm] at hc5
        have hno : ¬ CyOk N arcs signs := fun h => by
          have h1 := cyb_nxt h.b (k := k) (by omega)
          first
          | omega
          | (obtain ⟨q, hq, he⟩ := mem_tk (show el ss (k : Int) ∈ ss.take k by assumption)
             exact h.b.dist q k hq (by omega) (by rw [← v4 q hq, he, v3]))
        refine wp_seq ?_
        refine rg ?_
        refine st (asB rfl) ?_
        refine rg_end ?_
        refine n_then ?_
        refine wp_ret ?_
        refine r_blk (r_then (r_then (r_blk (r_then (ret1 (v := (.bool _)) Try.results52 rfl ?_)))))
        exact ⟨false, rfl, ⟨fun h => (by cases h), fun h => absurd h hno⟩, hE⟩
       ·
        try simp only [nm] at hc5
        have hnm : ¬ el ss (k : Int) ∈ ss.take k := by assumption
        have hcr1 := hcr.succ (by omega) (fun i hi e => hnm (by rw [v3, ← e, ← v4 i hi]; exact tk_mem hi (by omega)))
        refine wp_skip ?_
        refine n_blk ?_
        refine n_then ?_
        refine rg ?_
        refine st (mvI rfl) ?_
        refine st (y_add rfl rfl (by omega)) ?_
        refine st (asI rfl) ?_
        refine rg_end ?_
        exact n_then ⟨k + 1, _, rfl, same_lk rfl (same_h0), ⟨rfl, trivial⟩, ⟨hlp1, by omega, hcr1⟩, by first | omega | (dsimp only; omega)⟩
     ·
      try simp only [nm] at hc4
      have hkl : k = arcs.length := by omega
      subst hkl
      refine wp_exit ?_
      refine e_then (e_then (e_blk (?_)))
      refine n_then ?_
      refine wp_seq ?_
      refine rg ?_
      refine st (asB rfl) ?_
      refine rg_end ?_
      refine n_then ?_
      refine wp_ret ?_
      refine ret1 (v := (.bool _)) Try.results52 rfl ?_
      exact ⟨true, rfl, ⟨fun _ => ⟨hok, hlen, by omega, hca_, hcr.toB⟩, fun _ => rfl⟩, hE⟩
end Go.Proofs.Ytclligkngjhihaa
