/-
  Walks of the functions, printed by a program out of the code and the loops' relations.
-/
import Derived.Test.YteicgnmggkhlbaaWkS
import Derived.Test.YteicgnmggkhlbaaProg
import Derived.KernelRfl
import Derived.Test.YteicgnmggkhlbaaP7
namespace Go.Proofs.Yteicgnmggkhlbaa
open Go.Wk Go.RowKit
set_option linter.unusedVariables false
set_option linter.unusedSimpArgs false
theorem agg76 : AggOf Try.prog 76 10 := fun w => ⟨Try.isAgg76 w, Try.sizeOf76 w⟩
theorem cl38 : Callable Try.prog 38 := ⟨Try.call38⟩
theorem cl50 : Callable Try.prog 50 := ⟨Try.call50⟩
theorem fld59_0 : FieldOf Try.prog 59 0 0 := fun b o w => by simp [Instr.fieldAt, fieldPlace, Instr.sureAddr, Addr.add_lit]
theorem fld59_1 : FieldOf Try.prog 59 1 1 := fun b o w => by simp [Instr.fieldAt, fieldPlace, Instr.sureAddr, Addr.add_lit]
theorem fld59_2 : FieldOf Try.prog 59 2 2 := fun b o w => by simp [Instr.fieldAt, fieldPlace, Instr.sureAddr, Addr.add_lit]
theorem fld59_3 : FieldOf Try.prog 59 3 3 := fun b o w => by simp [Instr.fieldAt, fieldPlace, Instr.sureAddr, Addr.add_lit]
theorem na55 : NotAgg Try.prog 55 := Try.isAgg55
theorem na57 : NotAgg Try.prog 57 := Try.isAgg57
theorem sz22 : SzOf Try.prog 22 1 := Try.sizeOf22
theorem zer4 : ZeroOf Try.prog 4 (.bool false) := Try.zeroValue4

def nxA (at_ : List Int) (t : Nat) : List Int := at_.set t (el at_ (t : Int) + 1)
/-- What the search from a state comes to: the answer (0, 19 unsafe, 15 budget), the states that have been examined, the moves. -/
structure Ex where
  c : Int
  seen : List (List Int)
  plan : List Int
def exL (rows : List Pw) (f : List (List Int) → List Int → Ex) (at_ : List Int) : Nat → Nat → List (List Int) → Ex
  | 0, _, S => ⟨19, S, []⟩
  | j + 1, t, S => if movB rows at_ (t : Int) = true ∧ ¬ nxA at_ t ∈ S then (if (f S (nxA at_ t)).c = 19 then exL rows f at_ j (t + 1) (f S (nxA at_ t)).seen else ⟨(f S (nxA at_ t)).c, (f S (nxA at_ t)).seen, (t : Int) :: (f S (nxA at_ t)).plan⟩) else exL rows f at_ j (t + 1) S
def exB (rows : List Pw) (B : Int) (f : List (List Int) → List Int → Ex) (S : List (List Int)) (at_ : List Int) : Ex :=
  if (S.length : Int) = B then ⟨15, S, []⟩ else if leftB rows at_ = true then ⟨0, S ++ [at_], []⟩ else exL rows f at_ rows.length 0 (S ++ [at_])
def exm (rows : List Pw) (B : Int) : Nat → List (List Int) → List Int → Ex
  | 0 => exB rows B (fun S _ => ⟨19, S, []⟩)
  | m + 1 => exB rows B (exm rows B m)
def remT (rows : List Pw) (at_ : List Int) : Nat → Nat
  | 0 => 0
  | k + 1 => remT rows at_ k + ((el rows (k : Int)).st.length - el at_ (k : Int)).toNat
section
variable {rows : List Pw} {f : List (List Int) → List Int → Ex} {at_ : List Int} {S : List (List Int)} {k : Nat}
theorem set_el {l : List Int} {i : Nat} (h : i < l.length) : l.set i (el l (i : Int)) = l := by
  simp [el, h]
theorem exL_skip (hk : k < rows.length) (h : ¬ (movB rows at_ (k : Int) = true ∧ ¬ nxA at_ k ∈ S)) : exL rows f at_ (rows.length - k) k S = exL rows f at_ (rows.length - (k + 1)) (k + 1) S := by
  rw [show rows.length - k = (rows.length - (k + 1)) + 1 by omega, exL, if_neg h]
theorem exL_go (hk : k < rows.length) (h : movB rows at_ (k : Int) = true) (h2 : ¬ nxA at_ k ∈ S) (hr : (f S (nxA at_ k)).c = 19) : exL rows f at_ (rows.length - k) k S = exL rows f at_ (rows.length - (k + 1)) (k + 1) (f S (nxA at_ k)).seen := by
  rw [show rows.length - k = (rows.length - (k + 1)) + 1 by omega, exL, if_pos ⟨h, h2⟩, if_pos hr]
theorem exL_ret (hk : k < rows.length) (h : movB rows at_ (k : Int) = true) (h2 : ¬ nxA at_ k ∈ S) (hr : (f S (nxA at_ k)).c ≠ 19) : exL rows f at_ (rows.length - k) k S = ⟨(f S (nxA at_ k)).c, (f S (nxA at_ k)).seen, (k : Int) :: (f S (nxA at_ k)).plan⟩ := by
  rw [show rows.length - k = (rows.length - (k + 1)) + 1 by omega, exL, if_pos ⟨h, h2⟩, if_neg hr]
theorem exL_end (hk : ¬ k < rows.length) : exL rows f at_ (rows.length - k) k S = ⟨19, S, []⟩ := by
  rw [show rows.length - k = 0 by omega, exL]
end
def lftT (rows : List Pw) (at_ : List Int) (k : Nat) : Bool := (List.range k).all fun (t : Nat) => decide ((el rows (t : Int)).st.length ≤ el at_ (t : Int))
theorem lftT_S {rows : List Pw} {at_ : List Int} {k : Nat} : lftT rows at_ (k + 1) = (lftT rows at_ k && decide ((el rows (k : Int)).st.length ≤ el at_ (k : Int))) := by
  unfold lftT; rw [List.range_succ, List.all_append]; simp
theorem nx_t {at_ : List Int} {t : Nat} (h : t < at_.length) : el (nxA at_ t) (t : Int) = el at_ (t : Int) + 1 := by
  have := elSetS (l := at_) (i := (t : Int)) (v := el at_ (t : Int) + 1) (by omega) (by omega)
  simpa [nxA] using this
theorem nx_u {at_ : List Int} {t u : Nat} (h : u ≠ t) : el (nxA at_ t) (u : Int) = el at_ (u : Int) := by
  have := elSetN (l := at_) (i := (t : Int)) (j := (u : Int)) (v := el at_ (t : Int) + 1) (by omega) (by omega) (by omega)
  simpa [nxA] using this
theorem movB_lt {rows : List Pw} {at_ : List Int} {t : Int} (h : movB rows at_ t = true) : el at_ t < (el rows t).st.length := by
  unfold movB at h; simp only [Bool.and_eq_true, decide_eq_true_eq] at h; exact h.1
theorem nx_len {at_ : List Int} {t : Nat} : (nxA at_ t).length = at_.length := by simp [nxA]
theorem GoP.nx {rows : List Pw} {at_ : List Int} (h : GoP rows at_) {t : Nat} (ht : t < rows.length) (hm : movB rows at_ (t : Int) = true) : GoP rows (nxA at_ t) := by
  have hl := h.len
  refine ⟨by rw [nx_len]; exact hl, fun u hu => ?_⟩
  by_cases e : u = t
  · subst e
    rw [nx_t (by omega)]
    have := movB_lt hm
    have := h.rng u hu
    omega
  · rw [nx_u e]; exact h.rng u hu
theorem rem_nx {rows : List Pw} {at_ : List Int} (h : GoP rows at_) {t : Nat} (ht : t < rows.length) (hm : movB rows at_ (t : Int) = true) : ∀ k : Nat, (t < k → remT rows (nxA at_ t) k + 1 = remT rows at_ k) ∧ (k ≤ t → remT rows (nxA at_ t) k = remT rows at_ k)
  | 0 => ⟨fun q => by omega, fun _ => rfl⟩
  | k + 1 => by
    have ih := rem_nx h ht hm k
    have hl := h.len
    refine ⟨fun q => ?_, fun q => ?_⟩
    · by_cases e : k = t
      · subst e
        have := ih.2 (Nat.le_refl _)
        have h1 := movB_lt hm
        rw [remT, remT, this, nx_t (by omega)]
        omega
      · have := ih.1 (by omega)
        rw [remT, remT, nx_u e]
        omega
    · rw [remT, remT, ih.2 (by omega), nx_u (by omega)]
theorem rem_pos {rows : List Pw} {at_ : List Int} {t : Nat} (hm : el at_ (t : Int) < (el rows (t : Int)).st.length) : ∀ k : Nat, t < k → 0 < remT rows at_ k
  | 0, q => by omega
  | k + 1, q => by
    by_cases e : t = k
    · subst e; rw [remT]; omega
    · have := rem_pos hm k (by omega)
      rw [remT]; omega
theorem go_rng {rows : List Pw} {at_ : List Int} (hva : VaP rows) (h : GoP rows at_) : ∀ x ∈ at_, -128 ≤ x ∧ x ≤ 127 := fun x hx => by
  obtain ⟨i, hi, rfl⟩ := List.getElem_of_mem hx
  have hl := h.len
  have h1 := h.rng i (by omega)
  have h2 := (va_row hva (k := i) (by omega)).l2
  have e : el at_ (i : Int) = at_[i] := by simp [el, hi]
  rw [e] at h1; omega
theorem rem_le {rows : List Pw} {at_ : List Int} (hva : VaP rows) (h : GoP rows at_) : ∀ k : Nat, k ≤ rows.length → remT rows at_ k ≤ 65 * k
  | 0, _ => Nat.zero_le _
  | k + 1, q => by
    have := rem_le hva h k (by omega)
    have h1 := h.rng k (by omega)
    have h2 := (va_row hva (k := k) (by omega)).l2
    rw [remT]; omega
theorem ak76 : WideMaps.ArrKey Try.prog 76 74 10 := ⟨Try.underlying76, by kernel_rfl, by kernel_rfl, by kernel_rfl⟩
theorem kd76 : Maps.Keyed Try.prog 76 := Maps.Keyed.of_law ak76.law
theorem tys : ∃ m, Try.prog.types.size = m + 1 := ⟨99, by kernel_rfl⟩
theorem keyP {rows : List Pw} {at_ : List Int} (hva : VaP rows) (h : GoP rows at_) : ∃ kl, keyOf Try.prog 76 (enc8 (pad at_)) = some kl := key8 ak76 Try.underlying74 tys (pad_len (by have := h.len; have := hva.len; omega)) (pad_rng (go_rng hva h))
/-- The program's search in memory. -/
structure DMem (bst bm bs : Nat) (w : World) (rows : List Pw) (ap : Option Addr) (cp : Nat) (B : Int) (S : List (List Int)) (at_ pl : List Int) : Prop where
  ex : ∃ H mad mc, Blk w bs [.pointer (some ⟨bst, 0, none⟩), .map (some bm), .int .i64 B, .slice mad pl.length mc] ∧ Blk w bst (stC (.slice ap rows.length cp) (pad at_) H) ∧ HOk rows (pad at_) H rows.length ∧ Mp Try.prog 76 enc8 w bm (S.map pad) ∧ Ow 3 encI 1 (bs + 1) w.heap.size w mad mc pl ∧ (S.length : Int) ≤ B ∧ (∀ x ∈ S, x.length = rows.length) ∧ bst < bm ∧ bm < bs ∧ bs < w.heap.size

set_option maxHeartbeats 4000000 in
set_option maxRecDepth 100000 in
theorem dead_examB_ok (rows : List Pw) (ap : Option Addr) (cp l_ h_ bst bm bs : Nat) (B : Int) (S0 : List (List Int)) (at_ pl : List Int) (f : List (List Int) → List Int → Ex) (w : World) (hP : PIn l_ h_ w ap rows) (hM : DMem bst bm bs w rows ap cp B S0 at_ pl) (hva : VaP rows) (hg : GoP rows at_) (hnh : ¬ Hel rows at_) (hlb : h_ ≤ bst) (hnin : ¬ at_ ∈ S0) (hB1 : B ≤ 1048576) (hpm : pl.length ≤ 700) (ih : ∀ (t : Nat) (S' : List (List Int)) (w : World), t < rows.length → movB rows at_ (t : Int) = true → ¬ nxA at_ t ∈ S' → PIn l_ h_ w ap rows → DMem bst bm bs w rows ap cp B S' (nxA at_ t) (pl ++ [(t : Int)]) → Cal Try.prog 38 [.pointer (some ⟨bs, 0, none⟩)] w (fun v w' => ∃ at', v = .int .i64 (f S' (nxA at_ t)).c ∧ DMem bst bm bs w' rows ap cp B (f S' (nxA at_ t)).seen at' ((pl ++ [(t : Int)]) ++ (f S' (nxA at_ t)).plan) ∧ ((f S' (nxA at_ t)).c = 19 → at' = nxA at_ t ∧ (f S' (nxA at_ t)).plan = []) ∧ Out bst w.heap.size w w'))  : Cal Try.prog 38 [.pointer (some ⟨bs, 0, none⟩)] w (fun v w' => ∃ at', v = .int .i64 (exB rows B f S0 at_).c ∧ DMem bst bm bs w' rows ap cp B (exB rows B f S0 at_).seen at' (pl ++ (exB rows B f S0 at_).plan) ∧ ((exB rows B f S0 at_).c = 19 → at' = at_ ∧ (exB rows B f S0 at_).plan = []) ∧ Out bst w.heap.size w w') := by
  obtain ⟨H, mad, mc, hbs, hbst, hHq, hmp, hmv, hSl, hSn, d1, d2, d3⟩ := hM.ex
  have hl := hg.len
  have hrl := hva.len
  have hpe : ∀ u : Nat, u < rows.length → el (pad at_) (u : Int) = el at_ (u : Int) := fun u hu => go_pad hg hu
  have hnh8 : ¬ Hel rows (pad at_) := fun q => hnh (hel_congr hpe q)
  have hpl10 : (pad at_).length = 10 := pad_len (by omega)
  obtain ⟨kl, hkl⟩ := keyP hva hg
  have hSm : (S0.map pad).length = S0.length := List.length_map ..
  have hE : Out bst w.heap.size w w := Out.refl _ _ w
  refine enter Try.func38 rfl Try.ntmps38 rfl ?_
  refine wp_seq ?_
  refine rg ?_
  refine st (asI rfl) ?_
  refine rg_end ?_
  refine n_then ?_
  refine wp_seq ?_
  refine wp_seq ?_
  refine rgD 9 (fun w_ => Ext w w_) (fun i => false) mixed (by kernel_rfl) ?_
  intro w1 ho2 hs3
  refine ⟨ho2, ?_⟩
  have hx4 := ho2
  refine tn rfl (fun _ hG => mvP rfl) ?_
  refine tn rfl (fun _ hG => y_nil rfl) ?_
  refine tn rfl (fun _ hG => y_fld fld59_1 rfl) ?_
  refine tn rfl (fun _ hG => y_lb (hbs.ext hG) na57 rfl rfl) ?_
  refine tn rfl (fun _ hG => y_lenM (hmp.ext hG) Try.underlying57 rfl rfl) ?_
  refine tn rfl (fun _ hG => mvP rfl) ?_
  refine tn rfl (fun _ hG => y_nil rfl) ?_
  refine tn rfl (fun _ hG => y_fld fld59_2 rfl) ?_
  refine tn rfl (fun _ hG => y_lb (hbs.ext hG) na3 rfl rfl) ?_
  refine t_end ?_
  have hz5 := hx4.size
  replace hbs := hbs.ext hx4
  replace hbst := hbst.ext hx4
  replace hmp := hmp.ext hx4
  replace hmv := hmv.ext hx4
  replace hP := hP.ext hx4
  replace hE := hE.step hx4 (.inl (Nat.le_refl _))
  refine st (y_eql rfl rfl) ?_
  refine rg_end ?_
  refine n_then ?_
  refine cnd rfl (fun hc0 => ?_) (fun hc0 => ?_)
  ·
    try simp only [decide_eq_true_eq, decide_eq_false_iff_not, Bool.not_eq_true', Bool.not_eq_false', Bool.and_eq_true, Bool.or_eq_true, Bool.or_eq_false_iff, Bool.cond_true_right, Bool.cond_false_right, Bool.cond_true_left, Bool.cond_false_left, ne_eq, Decidable.not_not, bne_iff_ne, beq_iff_eq, beq_eq_false_iff_ne, Bool.not_true, Bool.not_false] at hc0
    have hex : exB rows B f S0 at_ = ⟨15, S0, []⟩ := if_pos (by omega)
    refine wp_seq ?_
    refine rg ?_
    refine st (asI rfl) ?_
    refine rg_end ?_
    refine n_then ?_
    refine wp_ret ?_
    refine r_then (ret1 (v := (.int .i64 _)) Try.results38 rfl ?_)
    rw [hex]
    exact ⟨at_, rfl, by rw [List.append_nil]; exact ⟨(⟨_, _, _, hbs, hbst, hHq, hmp, hmv.wide (by omega), hSl, hSn, d1, d2, by omega⟩ : ∃ H mad mc, _)⟩, (fun q => by cases q), hE⟩
  ·
    try simp only [decide_eq_true_eq, decide_eq_false_iff_not, Bool.not_eq_true', Bool.not_eq_false', Bool.and_eq_true, Bool.or_eq_true, Bool.or_eq_false_iff, Bool.cond_true_right, Bool.cond_false_right, Bool.cond_true_left, Bool.cond_false_left, ne_eq, Decidable.not_not, bne_iff_ne, beq_iff_eq, beq_eq_false_iff_ne, Bool.not_true, Bool.not_false] at hc0
    have hex0 : ¬ ((S0.length : Int) = B) := by omega
    refine wp_skip ?_
    refine n_then ?_
    refine wp_seq ?_
    refine rgD 11 (fun w_ => Ext w1 w_) (fun i => false) mixed (by kernel_rfl) ?_
    intro w6 ho7 hs8
    refine ⟨ho7, ?_⟩
    have hx9 := ho7
    refine tn rfl (fun _ hG => mvP rfl) ?_
    refine tn rfl (fun _ hG => y_nil rfl) ?_
    refine tn rfl (fun _ hG => y_fld fld59_1 rfl) ?_
    refine tn rfl (fun _ hG => y_lb (hbs.ext hG) na57 rfl rfl) ?_
    refine tn rfl (fun _ hG => mvP rfl) ?_
    refine tn rfl (fun _ hG => y_nil rfl) ?_
    refine tn rfl (fun _ hG => y_fld fld59_0 rfl) ?_
    refine tn rfl (fun _ hG => y_lb (hbs.ext hG) na55 rfl rfl) ?_
    refine tn rfl (fun _ hG => y_nil rfl) ?_
    refine tn rfl (fun _ hG => y_fld fld79_1 rfl) ?_
    refine tn rfl (fun _ hG => y_lbI (ds := (pad at_).map (Value.int .i8)) (hbst.ext hG) (by rw [List.length_map, hpl10]; exact agg76) rfl stC_at) ?_
    refine t_end ?_
    have hz10 := hx9.size
    replace hbs := hbs.ext hx9
    replace hbst := hbst.ext hx9
    replace hmp := hmp.ext hx9
    replace hmv := hmv.ext hx9
    replace hP := hP.ext hx9
    replace hE := hE.step hx9 (.inl (Nat.le_refl _))
    refine sd0 (d_mapU (a := pad at_) hmp kd76 Try.underlying57 (enc8_inj) (hkl) rfl rfl rfl ?_)
    intro w11 hs13 ho12 hmp'
    clear hmp; have hmp := hmp'; clear hmp'
    have hz14 := ho12.size
    replace hbs := hbs.out ho12 (by first | omega | (simp only [blk_some, hi1_some] at *; omega))
    replace hbst := hbst.out ho12 (by first | omega | (simp only [blk_some, hi1_some] at *; omega))
    have hrnhmv := hmv.rng
    replace hmv := hmv.out ho12 (by first | omega | (simp only [blk_some, hi1_some] at *; omega))
    replace hP := hP.out ho12 (by first | omega | (simp only [blk_some, hi1_some] at *; omega))
    replace hE := hE.step ho12 (by first | omega | (simp only [blk_some, hi1_some] at *; omega))
    rw [if_neg (fun q => hnin ((pad_mem (fun x hx => by rw [hSn x hx, hl])).1 q)), show S0.map pad ++ [pad at_] = (S0 ++ [at_]).map pad by simp] at hmp
    replace hSl : ((S0 ++ [at_]).length : Int) ≤ B := by simp; omega
    replace hSn : ∀ x ∈ S0 ++ [at_], x.length = rows.length := fun x hx => by
      rcases List.mem_append.1 hx with q | q
      · exact hSn x q
      · rw [List.mem_singleton.1 q]; exact hl
    refine rg_end ?_
    refine n_then ?_
    refine wp_seq ?_
    refine rg ?_
    refine st (asB rfl) ?_
    refine rg_end ?_
    refine n_then ?_
    refine wp_seq ?_
    refine wp_seq ?_
    refine rg ?_
    refine st (mvP rfl) ?_
    refine st (y_nil rfl) ?_
    refine st (y_fld fld59_0 rfl) ?_
    refine st (y_lb hbs na55 rfl rfl) ?_
    refine st (y_nil rfl) ?_
    refine st (y_fld fld79_0 rfl) ?_
    refine st (y_lb hbst na23 rfl rfl) ?_
    refine st (y_len Try.underlying23 rfl) ?_
    refine st (mvI rfl) ?_
    refine rg_end ?_
    refine n_then ?_
    refine wp_block ?_
    refine lp (γ := Nat) [3, 4, 37, 38, 39, 40, 41, 42, 43, 44, 45, 46, 47, 48, 49] (fun k => [(37, .int .i64 (k : Int)), (3, .bool (lftT rows at_ k))]) (fun k w_ => Ext w11 w_ ∧ (k : Int) ≤ rows.length) (fun k => rows.length - k) 0 ⟨rfl, rfl, trivial⟩ ⟨Out.refl _ _ _, by omega⟩ ?_
    rintro k hav_ w15 ⟨ho16, hk_⟩
    have hlp0 := ho16
    have hz17 := ho16.size
    replace hbs := hbs.ext ho16
    replace hbst := hbst.ext ho16
    replace hmp := hmp.ext ho16
    replace hmv := hmv.ext ho16
    replace hP := hP.ext ho16
    replace hE := hE.step ho16 (.inl (Nat.le_refl _))
    refine wp_seq ?_
    refine rg ?_
    refine st (y_lss rfl rfl) ?_
    refine rg_end ?_
    refine n_then ?_
    refine wp_seq ?_
    refine cnd rfl (fun hc1 => ?_) (fun hc1 => ?_)
    ·
      try simp only [decide_eq_true_eq, decide_eq_false_iff_not, Bool.not_eq_true', Bool.not_eq_false', Bool.and_eq_true, Bool.or_eq_true, Bool.or_eq_false_iff, Bool.cond_true_right, Bool.cond_false_right, Bool.cond_true_left, Bool.cond_false_left, ne_eq, Decidable.not_not, bne_iff_ne, beq_iff_eq, beq_eq_false_iff_ne, Bool.not_true, Bool.not_false] at hc1
      refine wp_skip ?_
      refine n_then ?_
      refine wp_seq ?_
      refine wp_block ?_
      refine wp_seq ?_
      refine rg ?_
      refine st (mvI rfl) ?_
      refine st (asI rfl) ?_
      refine rg_end ?_
      refine n_then ?_
      refine rg ?_
      refine st (mvB rfl) ?_
      refine st (mvB rfl) ?_
      refine gspL 41 rfl (fun hg18 => ?_) (fun hg18 => ?_)
      ·
        have hg18n := hg18; try simp only [decide_eq_true_eq, decide_eq_false_iff_not, Bool.not_eq_true', Bool.not_eq_false', Bool.and_eq_true, Bool.or_eq_true, Bool.or_eq_false_iff, Bool.cond_true_right, Bool.cond_false_right, Bool.cond_true_left, Bool.cond_false_left, ne_eq, Decidable.not_not, bne_iff_ne, beq_iff_eq, beq_eq_false_iff_ne, Bool.not_true, Bool.not_false] at hg18n
        refine stg rfl rfl hg18 (mvP rfl) ?_
        refine stg rfl rfl hg18 (y_nil rfl) ?_
        refine stg rfl rfl hg18 (y_fld fld59_0 rfl) ?_
        refine stg rfl rfl hg18 (y_lb hbs na55 rfl rfl) ?_
        refine stg rfl rfl hg18 (mvI rfl) ?_
        refine scg rfl rfl hg18 cl49 (dead_hasLeft_ok rows ap cp l_ h_ bst (pad at_) H k _ hP hbst hva hlb hpl10 hHq.len (by omega) (by rw [hpe k (by omega)]; exact hg.rng k (by omega))) rfl ?_
        rintro v23 w19 ⟨rfl, ho20⟩
        have hz24 := ho20.size
        replace hbs := hbs.ext ho20
        replace hbst := hbst.ext ho20
        replace hmp := hmp.ext ho20
        replace hmv := hmv.ext ho20
        replace hP := hP.ext ho20
        replace hE := hE.step ho20 (.inl (Nat.le_refl _))
        replace hlp0 := hlp0.step ho20 (.inl (Nat.le_refl _))
        refine st (y_pickT rfl hg18 (v := .bool _) rfl) ?_
        refine st (asB rfl) ?_
        refine rg_end ?_
        refine n_blk ?_
        refine n_then ?_
        refine rg ?_
        refine st (y_add rfl rfl (by omega)) ?_
        refine st (mvI rfl) ?_
        refine rg_end ?_
        exact n_then ⟨k + 1, _, rfl, same_lk rfl (same_h0), ⟨rfl, vb (by rw [lftT_S]; first | (rw [show lftT rows at_ k = true by assumption, Bool.true_and]; simp only [decide_eq_true_eq]; have := hg.rng k (by omega); rw [hpe k (by omega)]; omega) | (rw [show lftT rows at_ k = false by assumption]; simp)), trivial⟩, ⟨hlp0, by omega⟩, by first | omega | (dsimp only; omega)⟩
      ·
        have hg18n := hg18; try simp only [decide_eq_true_eq, decide_eq_false_iff_not, Bool.not_eq_true', Bool.not_eq_false', Bool.and_eq_true, Bool.or_eq_true, Bool.or_eq_false_iff, Bool.cond_true_right, Bool.cond_false_right, Bool.cond_true_left, Bool.cond_false_left, ne_eq, Decidable.not_not, bne_iff_ne, beq_iff_eq, beq_eq_false_iff_ne, Bool.not_true, Bool.not_false] at hg18n
        refine sts rfl rfl hg18 ?_
        refine sts rfl rfl hg18 ?_
        refine sts rfl rfl hg18 ?_
        refine sts rfl rfl hg18 ?_
        refine sts rfl rfl hg18 ?_
        refine sts rfl rfl hg18 ?_
        refine st (y_pickF rfl hg18 (v := .bool _) rfl) ?_
        refine st (asB rfl) ?_
        refine rg_end ?_
        refine n_blk ?_
        refine n_then ?_
        refine rg ?_
        refine st (y_add rfl rfl (by omega)) ?_
        refine st (mvI rfl) ?_
        refine rg_end ?_
        exact n_then ⟨k + 1, _, rfl, same_lk rfl (same_h0), ⟨rfl, vb (by rw [lftT_S]; first | (rw [show lftT rows at_ k = true by assumption, Bool.true_and]; simp only [decide_eq_true_eq]; have := hg.rng k (by omega); rw [hpe k (by omega)]; omega) | (rw [show lftT rows at_ k = false by assumption]; simp)), trivial⟩, ⟨hlp0, by omega⟩, by first | omega | (dsimp only; omega)⟩
    ·
      try simp only [decide_eq_true_eq, decide_eq_false_iff_not, Bool.not_eq_true', Bool.not_eq_false', Bool.and_eq_true, Bool.or_eq_true, Bool.or_eq_false_iff, Bool.cond_true_right, Bool.cond_false_right, Bool.cond_true_left, Bool.cond_false_left, ne_eq, Decidable.not_not, bne_iff_ne, beq_iff_eq, beq_eq_false_iff_ne, Bool.not_true, Bool.not_false] at hc1
      have hke : k = rows.length := by omega
      subst hke
      refine wp_exit ?_
      refine e_then (e_then (e_blk (?_)))
      refine n_then ?_
      refine wp_seq ?_
      refine wp_seq ?_
      refine rg ?_
      refine st (mvB rfl) ?_
      refine rg_end ?_
      refine n_then ?_
      refine cnd rfl (fun hc2 => ?_) (fun hc2 => ?_)
      ·
        try simp only [decide_eq_true_eq, decide_eq_false_iff_not, Bool.not_eq_true', Bool.not_eq_false', Bool.and_eq_true, Bool.or_eq_true, Bool.or_eq_false_iff, Bool.cond_true_right, Bool.cond_false_right, Bool.cond_true_left, Bool.cond_false_left, ne_eq, Decidable.not_not, bne_iff_ne, beq_iff_eq, beq_eq_false_iff_ne, Bool.not_true, Bool.not_false] at hc2
        have hex : exB rows B f S0 at_ = ⟨0, S0 ++ [at_], []⟩ := by unfold exB; rw [if_neg hex0, if_pos (show leftB rows at_ = true from hc2)]
        refine wp_seq ?_
        refine rg ?_
        refine st (asI rfl) ?_
        refine rg_end ?_
        refine n_then ?_
        refine wp_ret ?_
        refine r_then (ret1 (v := (.int .i64 _)) Try.results38 rfl ?_)
        rw [hex]
        exact ⟨at_, rfl, by rw [List.append_nil]; exact ⟨(⟨_, _, _, hbs, hbst, hHq, hmp, hmv.wide (by omega), hSl, hSn, d1, d2, by omega⟩ : ∃ H mad mc, _)⟩, (fun q => by cases q), hE⟩
      ·
        try simp only [decide_eq_true_eq, decide_eq_false_iff_not, Bool.not_eq_true', Bool.not_eq_false', Bool.and_eq_true, Bool.or_eq_true, Bool.or_eq_false_iff, Bool.cond_true_right, Bool.cond_false_right, Bool.cond_true_left, Bool.cond_false_left, ne_eq, Decidable.not_not, bne_iff_ne, beq_iff_eq, beq_eq_false_iff_ne, Bool.not_true, Bool.not_false] at hc2
        have hex : exB rows B f S0 at_ = exL rows f at_ rows.length 0 (S0 ++ [at_]) := by unfold exB; rw [if_neg hex0, if_neg (by rw [show leftB rows at_ = false from hc2]; decide)]
        refine wp_skip ?_
        refine n_then ?_
        refine wp_seq ?_
        refine wp_seq ?_
        refine rg ?_
        refine st (mvP rfl) ?_
        refine st (y_nil rfl) ?_
        refine st (y_fld fld59_0 rfl) ?_
        refine st (y_lb hbs na55 rfl rfl) ?_
        refine st (y_nil rfl) ?_
        refine st (y_fld fld79_0 rfl) ?_
        refine st (y_lb hbst na23 rfl rfl) ?_
        refine st (y_len Try.underlying23 rfl) ?_
        refine st (mvI rfl) ?_
        refine rg_end ?_
        refine n_then ?_
        refine wp_block ?_
        obtain ⟨z1, hz1⟩ : ∃ z, z = w15.heap.size := ⟨_, rfl⟩
        have hM0 : DMem bst bm bs _ rows ap cp B (S0 ++ [at_]) at_ pl := ⟨(⟨_, _, _, hbs, hbst, hHq, hmp, hmv.wide (by omega), hSl, hSn, d1, d2, by omega⟩ : ∃ H mad mc, _)⟩
        clear hHq hSl hSn
        refine lp (γ := Nat × List (List Int)) [2, 5, 6, 7, 59, 60, 61, 62, 63, 64, 65, 66, 67, 68, 69, 70, 71, 72, 73, 74, 75, 76, 77, 78, 79, 80, 81, 82, 83, 84, 85, 86, 87, 88, 89, 90, 91, 92, 93, 94, 95, 96, 97, 98, 99, 100, 101, 102, 103, 104, 105, 106, 107, 108, 109, 110, 111, 112, 113, 114, 115, 116, 117, 118, 119, 120, 121, 122, 123, 124, 125, 126, 127, 128, 129, 130, 131, 132, 133, 134, 135] (fun ⟨k, S⟩ => [(59, .int .i64 (k : Int))]) (fun ⟨k, S⟩ w_ => Out bst z1 w15 w_ ∧ (k : Int) ≤ rows.length ∧ DMem bst bm bs w_ rows ap cp B S at_ pl ∧ exB rows B f S0 at_ = exL rows f at_ (rows.length - k) k S) (fun ⟨k, S⟩ => rows.length - k) (0, S0 ++ [at_]) ⟨rfl, trivial⟩ ⟨Out.refl _ _ _, by omega, hM0, hex⟩ ?_
        rintro ⟨k, S⟩ hav_ w25 ⟨ho26, hk_, hM, heq⟩
        have hlp1 := ho26
        have hz27 := ho26.size
        replace hP := hP.out ho26 (by first | omega | (simp only [blk_some, hi1_some] at *; omega))
        replace hE := hE.stepT ho26 (Nat.le_refl _) (by omega)
        clear hbs hbst hmp hmv d1 d2 d3
        obtain ⟨H, mad, mc, hbs, hbst, hHq, hmp, hmv, hSl, hSn, d1, d2, d3⟩ := hM.ex
        refine wp_seq ?_
        refine rg ?_
        refine st (y_lss rfl rfl) ?_
        refine rg_end ?_
        refine n_then ?_
        refine wp_seq ?_
        refine cnd rfl (fun hc3 => ?_) (fun hc3 => ?_)
        ·
          try simp only [decide_eq_true_eq, decide_eq_false_iff_not, Bool.not_eq_true', Bool.not_eq_false', Bool.and_eq_true, Bool.or_eq_true, Bool.or_eq_false_iff, Bool.cond_true_right, Bool.cond_false_right, Bool.cond_true_left, Bool.cond_false_left, ne_eq, Decidable.not_not, bne_iff_ne, beq_iff_eq, beq_eq_false_iff_ne, Bool.not_true, Bool.not_false] at hc3
          have hgk := hg.rng k (by omega)
          have hl2 := (va_row hva (k := k) (by omega)).l2
          have hpk := hpe k (by omega)
          refine wp_skip ?_
          refine n_then ?_
          refine wp_seq ?_
          refine wp_block ?_
          refine wp_seq ?_
          refine rg ?_
          refine st (mvI rfl) ?_
          refine st (asI rfl) ?_
          refine rg_end ?_
          refine n_then ?_
          refine wp_seq ?_
          refine wp_seq ?_
          refine rg ?_
          refine st (mvP rfl) ?_
          refine st (y_nil rfl) ?_
          refine st (y_fld fld59_0 rfl) ?_
          refine st (y_lb hbs na55 rfl rfl) ?_
          refine st (mvI rfl) ?_
          refine sc cl40 (dead_canMove_ok rows ap cp l_ h_ bst (pad at_) H k _ hP hbst hva hlb hpl10 hHq.len (by omega) (by rw [hpe k (by omega)]; exact hg.rng k (by omega)) hHq hnh8) rfl ?_
          rintro v32 w28 ⟨rfl, ho29⟩
          rw [movB_congr hpe (by omega)]
          have hz33 := ho29.size
          replace hP := hP.ext ho29
          replace hE := hE.step ho29 (.inl (Nat.le_refl _))
          replace hbs := hbs.ext ho29
          replace hbst := hbst.ext ho29
          replace hmp := hmp.ext ho29
          replace hmv := hmv.ext ho29
          replace hlp1 := hlp1.step ho29 (.inl (Nat.le_refl _))
          refine st (y_not rfl) ?_
          refine rg_end ?_
          refine n_then ?_
          refine cnd rfl (fun hc4 => ?_) (fun hc4 => ?_)
          ·
            try simp only [decide_eq_true_eq, decide_eq_false_iff_not, Bool.not_eq_true', Bool.not_eq_false', Bool.and_eq_true, Bool.or_eq_true, Bool.or_eq_false_iff, Bool.cond_true_right, Bool.cond_false_right, Bool.cond_true_left, Bool.cond_false_left, ne_eq, Decidable.not_not, bne_iff_ne, beq_iff_eq, beq_eq_false_iff_ne, Bool.not_true, Bool.not_false] at hc4
            have hMn : DMem bst bm bs _ rows ap cp B S at_ pl := ⟨(⟨_, _, _, hbs, hbst, hHq, hmp, hmv.wide (by omega), hSl, hSn, d1, d2, by omega⟩ : ∃ H mad mc, _)⟩
            have heq1 := heq.trans (exL_skip (by omega) (fun q => by rw [hc4] at q; exact absurd q.1 (by decide)))
            refine wp_exit ?_
            refine e_then (e_blk (?_))
            refine n_then ?_
            refine rg ?_
            refine st (y_add rfl rfl (by omega)) ?_
            refine st (mvI rfl) ?_
            refine rg_end ?_
            exact n_then ⟨(k + 1, _), _, rfl, same_lk rfl (same_h0), ⟨rfl, trivial⟩, ⟨hlp1, by omega, hMn, heq1⟩, by first | omega | (dsimp only; omega)⟩
          ·
            try simp only [decide_eq_true_eq, decide_eq_false_iff_not, Bool.not_eq_true', Bool.not_eq_false', Bool.and_eq_true, Bool.or_eq_true, Bool.or_eq_false_iff, Bool.cond_true_right, Bool.cond_false_right, Bool.cond_true_left, Bool.cond_false_left, ne_eq, Decidable.not_not, bne_iff_ne, beq_iff_eq, beq_eq_false_iff_ne, Bool.not_true, Bool.not_false] at hc4
            have hmv_ : movB rows at_ (k : Int) = true := hc4
            have hlt := movB_lt hmv_
            refine wp_skip ?_
            refine n_then ?_
            refine wp_seq ?_
            refine rg ?_
            refine st (mvP rfl) ?_
            refine st (y_nil rfl) ?_
            refine st (y_fld fld59_0 rfl) ?_
            refine st (y_lb hbs na55 rfl rfl) ?_
            refine st (mvI rfl) ?_
            refine st (y_nil rfl) ?_
            refine st (y_fld fld79_1 rfl) ?_
            refine st (y_ixF Try.underlying76 sz74 rfl rfl (by omega) (by omega)) ?_
            refine st (y_lb hbst na74 rfl (stC_A (i := (k : Int)) (by omega) (by omega))) ?_
            refine st (asI rfl) ?_
            refine rg_end ?_
            refine n_then ?_
            refine wp_seq ?_
            refine rg ?_
            refine st (mvP rfl) ?_
            refine st (y_nil rfl) ?_
            refine st (y_fld fld59_0 rfl) ?_
            refine st (y_lb hbs na55 rfl rfl) ?_
            refine st (mvI rfl) ?_
            refine st (mvI rfl) ?_
            refine st (y_addW rfl rfl) ?_
            rw [i8_in (by omega)]
            refine sc cl50 (dead_set_ok rows ap cp l_ h_ bst (pad at_) H k (el (pad at_) (k : Int) + 1) _ hP hbst hva hlb hpl10 hHq.len (by omega) (by rw [hpe k (by omega)]; exact hg.rng k (by omega)) (by omega)) rfl ?_
            rintro v38 w34 ⟨rfl, hbst', ho35⟩
            clear hbst; have hbst := hbst'; clear hbst'
            have e1 : (pad at_).set k (el (pad at_) (k : Int) + 1) = pad (nxA at_ k) := by
              unfold nxA; rw [pad_set (by omega), hpe k (by omega)]
            have hHq1 := hHq.move (t := k) (p := el (pad at_) (k : Int) + 1) hva hnh8 (by omega) (by omega)
            rw [e1] at hHq1 hbst
            generalize holdF rows (pad (nxA at_ k)) (holdF rows (pad at_) H (k : Int) (-1)) (k : Int) (k : Int) = H1 at hHq1 hbst
            obtain ⟨kl1, hkl1⟩ := keyP hva (hg.nx (t := k) (by omega) hmv_)
            have hpl1 : (pad (nxA at_ k)).length = 10 := pad_len (by rw [nx_len]; omega)
            have hpe1 : el (pad (nxA at_ k)) (k : Int) = el at_ (k : Int) + 1 := by rw [pad_el (by omega) (by rw [nx_len]; omega), nx_t (by omega)]
            have hz39 := ho35.size
            replace hP := hP.out ho35 (by first | omega | (simp only [blk_some, hi1_some] at *; omega))
            replace hE := hE.step ho35 (by first | omega | (simp only [blk_some, hi1_some] at *; omega))
            replace hbs := hbs.out ho35 (by first | omega | (simp only [blk_some, hi1_some] at *; omega))
            replace hmp := hmp.out ho35 (by first | omega | (simp only [blk_some, hi1_some] at *; omega))
            have hrnhmv := hmv.rng
            replace hmv := hmv.out ho35 (by first | omega | (simp only [blk_some, hi1_some] at *; omega))
            replace hlp1 := hlp1.step ho35 (by first | omega | (simp only [blk_some, hi1_some] at *; omega))
            refine rg_end ?_
            refine n_then ?_
            refine wp_seq ?_
            refine wp_seq ?_
            refine rgD 11 (fun w_ => Ext w34 w_) (fun i => false) mixed (by kernel_rfl) ?_
            intro w40 ho41 hs42
            refine ⟨ho41, ?_⟩
            have hx43 := ho41
            refine tn rfl (fun _ hG => mvP rfl) ?_
            refine tn rfl (fun _ hG => y_nil rfl) ?_
            refine tn rfl (fun _ hG => y_fld fld59_1 rfl) ?_
            refine tn rfl (fun _ hG => y_lb (hbs.ext hG) na57 rfl rfl) ?_
            refine tn rfl (fun _ hG => mvP rfl) ?_
            refine tn rfl (fun _ hG => y_nil rfl) ?_
            refine tn rfl (fun _ hG => y_fld fld59_0 rfl) ?_
            refine tn rfl (fun _ hG => y_lb (hbs.ext hG) na55 rfl rfl) ?_
            refine tn rfl (fun _ hG => y_nil rfl) ?_
            refine tn rfl (fun _ hG => y_fld fld79_1 rfl) ?_
            refine tn rfl (fun _ hG => y_lbI (ds := (pad (nxA at_ k)).map (Value.int .i8)) (hbst.ext hG) (by rw [List.length_map, hpl1]; exact agg76) rfl stC_at) ?_
            refine t_end ?_
            have hz44 := hx43.size
            replace hP := hP.ext hx43
            replace hE := hE.step hx43 (.inl (Nat.le_refl _))
            replace hbs := hbs.ext hx43
            replace hbst := hbst.ext hx43
            replace hmp := hmp.ext hx43
            replace hmv := hmv.ext hx43
            replace hlp1 := hlp1.step hx43 (.inl (Nat.le_refl _))
            refine st (y_look (a := pad (nxA at_ k)) hmp kd76 Try.underlying57 zer4 (enc8_inj) (hkl1) rfl rfl) ?_
            refine st (y_not rfl) ?_
            refine rg_end ?_
            refine n_then ?_
            refine cnd rfl (fun hc5 => ?_) (fun hc5 => ?_)
            ·
              try simp only [decide_eq_true_eq, decide_eq_false_iff_not, Bool.not_eq_true', Bool.not_eq_false', Bool.and_eq_true, Bool.or_eq_true, Bool.or_eq_false_iff, Bool.cond_true_right, Bool.cond_false_right, Bool.cond_true_left, Bool.cond_false_left, ne_eq, Decidable.not_not, bne_iff_ne, beq_iff_eq, beq_eq_false_iff_ne, Bool.not_true, Bool.not_false] at hc5
              have hni : ¬ nxA at_ k ∈ S := fun q => hc5 ((pad_mem (fun x hx => by rw [hSn x hx, nx_len, hl])).2 q)
              refine wp_seq ?_
              refine rg ?_
              refine st (mvP rfl) ?_
              refine st (mvP rfl) ?_
              refine st (y_nil rfl) ?_
              refine st (y_fld fld59_3 rfl) ?_
              refine st (y_lb hbs na22 rfl rfl) ?_
              refine st (mvI rfl) ?_
              refine sd (d_bs (bsl22_1 _ _) rfl ?_)
              intro bl48 w45 hbbl48 hs47 ho46 hbl48
              have hz49 := ho46.size
              replace hP := hP.ext ho46
              replace hE := hE.step ho46 (.inl (Nat.le_refl _))
              replace hbs := hbs.ext ho46
              replace hbst := hbst.ext ho46
              replace hmp := hmp.ext ho46
              replace hmv := hmv.ext ho46
              replace hlp1 := hlp1.step ho46 (.inl (Nat.le_refl _))
              have hrhmv := hmv.rng
              refine sd (d_app (xs := [(k : Int)]) hmv sl22 infoz3 (by decide) rfl rfl rfl rfl (hbl48) (fun _ => rfl) (by simp; unfold maxLen; omega) (by simp; omega) (by omega) (by omega) ?_)
              intro mad1 mc1 w50 ho51 hmv'
              have hs52 := ho51.size
              clear hmv; have hmv := hmv'; clear hmv'
              have hz55 := ho51.size
              replace hP := hP.out ho51 (by first | omega | (simp only [blk_some, hi1_some] at *; omega))
              replace hE := hE.step ho51 (by first | omega | (simp only [blk_some, hi1_some] at *; omega))
              replace hbs := hbs.out ho51 (by first | omega | (simp only [blk_some, hi1_some] at *; omega))
              replace hbst := hbst.out ho51 (by first | omega | (simp only [blk_some, hi1_some] at *; omega))
              replace hmp := hmp.out ho51 (by first | omega | (simp only [blk_some, hi1_some] at *; omega))
              replace hlp1 := hlp1.step ho51 (by first | omega | (simp only [blk_some, hi1_some] at *; omega))
              have hmr := hmv.rng
              refine st (y_nil rfl) ?_
              refine st (y_fld fld59_3 rfl) ?_
              refine sd0 (d_st hbs sz22 rfl rfl rfl (Nat.le_of_ble_eq_true rfl) ?_)
              intro w56 hs58 ho57 hbs'
              clear hbs; have hbs := hbs'; clear hbs'
              have hz59 := ho57.size
              replace hP := hP.out ho57 (by first | omega | (simp only [blk_some, hi1_some] at *; omega))
              replace hE := hE.step ho57 (by first | omega | (simp only [blk_some, hi1_some] at *; omega))
              replace hbst := hbst.out ho57 (by first | omega | (simp only [blk_some, hi1_some] at *; omega))
              replace hmp := hmp.out ho57 (by first | omega | (simp only [blk_some, hi1_some] at *; omega))
              replace hlp1 := hlp1.step ho57 (by first | omega | (simp only [blk_some, hi1_some] at *; omega))
              have hrnhmv := hmv.rng
              replace hmv := hmv.out ho57 (by first | omega | (simp only [blk_some, hi1_some] at *; omega))
              refine rg_end ?_
              refine n_then ?_
              refine wp_seq ?_
              refine wp_seq ?_
              refine rg ?_
              refine st (mvP rfl) ?_
              have hM1 : DMem bst bm bs _ rows ap cp B S (nxA at_ k) (pl ++ [(k : Int)]) := ⟨(⟨_, _, _, hbs, hbst, hHq1, hmp, hmv.wide (by omega), hSl, hSn, d1, d2, by omega⟩ : ∃ H mad mc, _)⟩
              clear hbs hbst hmp hmv
              refine sc cl38 (ih k S _ (by omega) hmv_ hni hP hM1) rfl ?_
              rintro v64 w60 ⟨at2, rfl, hM2, hat2, ho61⟩
              replace hP := hP.out ho61 (by omega)
              replace hE := hE.stepT ho61 (Nat.le_refl _) (by omega)
              replace hlp1 := hlp1.stepT ho61 (Nat.le_refl _) (by omega)
              have hzr := ho61.size
              refine st (asI rfl) ?_
              refine rg_end ?_
              refine n_then ?_
              refine wp_seq ?_
              refine rg ?_
              refine st (mvI rfl) ?_
              refine st (y_neq rfl rfl) ?_
              refine rg_end ?_
              refine n_then ?_
              refine cnd rfl (fun hc6 => ?_) (fun hc6 => ?_)
              ·
                try simp only [decide_eq_true_eq, decide_eq_false_iff_not, Bool.not_eq_true', Bool.not_eq_false', Bool.and_eq_true, Bool.or_eq_true, Bool.or_eq_false_iff, Bool.cond_true_right, Bool.cond_false_right, Bool.cond_true_left, Bool.cond_false_left, ne_eq, Decidable.not_not, bne_iff_ne, beq_iff_eq, beq_eq_false_iff_ne, Bool.not_true, Bool.not_false] at hc6
                have hfin := heq.trans (exL_ret (by omega) hmv_ hni hc6)
                refine wp_seq ?_
                refine rg ?_
                refine st (mvI rfl) ?_
                refine st (asI rfl) ?_
                refine rg_end ?_
                refine n_then ?_
                refine wp_ret ?_
                refine r_then (r_then (r_blk (r_then (r_then (r_blk (r_then (ret1 (v := (.int .i64 _)) Try.results38 rfl ?_)))))))
                rw [hfin]
                exact ⟨at2, rfl, by rw [List.append_cons]; exact hM2, (fun q => absurd q hc6), hE⟩
              ·
                try simp only [decide_eq_true_eq, decide_eq_false_iff_not, Bool.not_eq_true', Bool.not_eq_false', Bool.and_eq_true, Bool.or_eq_true, Bool.or_eq_false_iff, Bool.cond_true_right, Bool.cond_false_right, Bool.cond_true_left, Bool.cond_false_left, ne_eq, Decidable.not_not, bne_iff_ne, beq_iff_eq, beq_eq_false_iff_ne, Bool.not_true, Bool.not_false] at hc6
                have heq1 := heq.trans (exL_go (by omega) hmv_ hni hc6)
                obtain ⟨rfl, hp0⟩ := hat2 hc6
                rw [hp0, List.append_nil] at hM2
                clear hSl hSn d3 hHq1
                obtain ⟨H1, mad, mc, hbs, hbst, hHq1, hmp, hmv, hSl, hSn, d1, d2, d3⟩ := hM2.ex
                have hcap := hmv.lenLe
                have hmr2 := hmv.rng
                have hpop : (((pl ++ [(k : Int)]).length : Int) - 1).toNat = pl.length := by simp
                refine wp_skip ?_
                refine n_then ?_
                refine rgD 12 (fun w_ => Ext w60 w_) (fun i => false) mixed (by kernel_rfl) ?_
                intro w65 ho66 hs67
                refine ⟨ho66, ?_⟩
                have hx68 := ho66
                refine tn rfl (fun _ hG => mvP rfl) ?_
                refine tn rfl (fun _ hG => mvP rfl) ?_
                refine tn rfl (fun _ hG => y_nil rfl) ?_
                refine tn rfl (fun _ hG => y_fld fld59_3 rfl) ?_
                refine tn rfl (fun _ hG => y_lb (hbs.ext hG) na22 rfl rfl) ?_
                refine tn rfl (fun _ hG => mvP rfl) ?_
                refine tn rfl (fun _ hG => y_nil rfl) ?_
                refine tn rfl (fun _ hG => y_fld fld59_3 rfl) ?_
                refine tn rfl (fun _ hG => y_lb (hbs.ext hG) na22 rfl rfl) ?_
                refine tn rfl (fun _ hG => y_len Try.underlying22 rfl) ?_
                refine tn rfl (fun _ hG => y_sub rfl rfl (by omega)) ?_
                refine tn rfl (fun _ hG => y_slh sl22 rfl rfl (by simp) (by omega)) ?_
                refine t_end ?_
                have hz69 := hx68.size
                replace hP := hP.ext hx68
                replace hE := hE.step hx68 (.inl (Nat.le_refl _))
                replace hlp1 := hlp1.step hx68 (.inl (Nat.le_refl _))
                replace hbs := hbs.ext hx68
                replace hbst := hbst.ext hx68
                replace hmp := hmp.ext hx68
                replace hmv := hmv.ext hx68
                refine st (y_nil rfl) ?_
                refine st (y_fld fld59_3 rfl) ?_
                refine sd0 (d_st hbs sz22 rfl rfl rfl (Nat.le_of_ble_eq_true rfl) ?_)
                intro w70 hs72 ho71 hbs'
                clear hbs; have hbs := hbs'; clear hbs'
                have hz73 := ho71.size
                replace hP := hP.out ho71 (by first | omega | (simp only [blk_some, hi1_some] at *; omega))
                replace hE := hE.step ho71 (by first | omega | (simp only [blk_some, hi1_some] at *; omega))
                replace hlp1 := hlp1.step ho71 (by first | omega | (simp only [blk_some, hi1_some] at *; omega))
                replace hbst := hbst.out ho71 (by first | omega | (simp only [blk_some, hi1_some] at *; omega))
                replace hmp := hmp.out ho71 (by first | omega | (simp only [blk_some, hi1_some] at *; omega))
                replace hmv := hmv.out ho71 (by first | omega | (simp only [blk_some, hi1_some] at *; omega))
                replace hbs : Blk w70 bs [.pointer (some ⟨bst, 0, none⟩), .map (some bm), .int .i64 B, .slice mad pl.length mc] := by rw [← hpop]; exact hbs
                replace hmv := hmv.take pl.length
                rw [List.take_left] at hmv
                refine rg_end ?_
                refine n_then ?_
                refine rg ?_
                refine st (mvP rfl) ?_
                refine st (y_nil rfl) ?_
                refine st (y_fld fld59_0 rfl) ?_
                refine st (y_lb hbs na55 rfl rfl) ?_
                refine st (mvI rfl) ?_
                refine st (mvI rfl) ?_
                refine sc cl50 (dead_set_ok rows ap cp l_ h_ bst (pad (nxA at_ k)) H1 k (el (pad at_) (k : Int)) _ hP hbst hva hlb hpl1 hHq1.len (by omega) (by rw [hpe1]; omega) (by omega)) rfl ?_
                rintro v78 w74 ⟨rfl, hbst', ho75⟩
                clear hbst; have hbst := hbst'; clear hbst'
                have e2 : (pad (nxA at_ k)).set k (el (pad at_) (k : Int)) = pad at_ := by
                  rw [pad_set (by rw [nx_len]; omega), hpk]; unfold nxA; rw [List.set_set]; congr 1; exact set_el (by omega)
                have hnhn : ¬ Hel rows (pad (nxA at_ k)) := fun q => hel_move hva hnh (t := k) (by omega) (by omega) (by omega) hmv_ (hel_congr (fun u hu => go_pad (hg.nx (t := k) (by omega) hmv_) hu) q)
                have hHq2 := hHq1.move (t := k) (p := el (pad at_) (k : Int)) hva hnhn (by omega) (by omega)
                rw [e2] at hHq2 hbst
                have hz79 := ho75.size
                replace hP := hP.out ho75 (by first | omega | (simp only [blk_some, hi1_some] at *; omega))
                replace hE := hE.step ho75 (by first | omega | (simp only [blk_some, hi1_some] at *; omega))
                replace hlp1 := hlp1.step ho75 (by first | omega | (simp only [blk_some, hi1_some] at *; omega))
                replace hbs := hbs.out ho75 (by first | omega | (simp only [blk_some, hi1_some] at *; omega))
                replace hmp := hmp.out ho75 (by first | omega | (simp only [blk_some, hi1_some] at *; omega))
                replace hmv := hmv.out ho75 (by first | omega | (simp only [blk_some, hi1_some] at *; omega))
                have hMn : DMem bst bm bs _ rows ap cp B _ at_ pl := ⟨(⟨_, _, _, hbs, hbst, hHq2, hmp, hmv.wide (by omega), hSl, hSn, d1, d2, by omega⟩ : ∃ H mad mc, _)⟩
                refine rg_end ?_
                refine n_blk ?_
                refine n_then ?_
                refine rg ?_
                refine st (y_add rfl rfl (by omega)) ?_
                refine st (mvI rfl) ?_
                refine rg_end ?_
                exact n_then ⟨(k + 1, _), _, rfl, same_lk rfl (same_h0), ⟨rfl, trivial⟩, ⟨hlp1, by omega, hMn, heq1⟩, by first | omega | (dsimp only; omega)⟩
            ·
              try simp only [decide_eq_true_eq, decide_eq_false_iff_not, Bool.not_eq_true', Bool.not_eq_false', Bool.and_eq_true, Bool.or_eq_true, Bool.or_eq_false_iff, Bool.cond_true_right, Bool.cond_false_right, Bool.cond_true_left, Bool.cond_false_left, ne_eq, Decidable.not_not, bne_iff_ne, beq_iff_eq, beq_eq_false_iff_ne, Bool.not_true, Bool.not_false] at hc5
              have hin : nxA at_ k ∈ S := (pad_mem (fun x hx => by rw [hSn x hx, nx_len, hl])).1 hc5
              have heq1 := heq.trans (exL_skip (by omega) (fun q => q.2 hin))
              refine wp_skip ?_
              refine n_then ?_
              refine rg ?_
              refine st (mvP rfl) ?_
              refine st (y_nil rfl) ?_
              refine st (y_fld fld59_0 rfl) ?_
              refine st (y_lb hbs na55 rfl rfl) ?_
              refine st (mvI rfl) ?_
              refine st (mvI rfl) ?_
              refine sc cl50 (dead_set_ok rows ap cp l_ h_ bst (pad (nxA at_ k)) H1 k (el (pad at_) (k : Int)) _ hP hbst hva hlb hpl1 hHq1.len (by omega) (by rw [hpe1]; omega) (by omega)) rfl ?_
              rintro v84 w80 ⟨rfl, hbst', ho81⟩
              clear hbst; have hbst := hbst'; clear hbst'
              have e2 : (pad (nxA at_ k)).set k (el (pad at_) (k : Int)) = pad at_ := by
                rw [pad_set (by rw [nx_len]; omega), hpk]; unfold nxA; rw [List.set_set]; congr 1; exact set_el (by omega)
              have hnhn : ¬ Hel rows (pad (nxA at_ k)) := fun q => hel_move hva hnh (t := k) (by omega) (by omega) (by omega) hmv_ (hel_congr (fun u hu => go_pad (hg.nx (t := k) (by omega) hmv_) hu) q)
              have hHq2 := hHq1.move (t := k) (p := el (pad at_) (k : Int)) hva hnhn (by omega) (by omega)
              rw [e2] at hHq2 hbst
              have hz85 := ho81.size
              replace hP := hP.out ho81 (by first | omega | (simp only [blk_some, hi1_some] at *; omega))
              replace hE := hE.step ho81 (by first | omega | (simp only [blk_some, hi1_some] at *; omega))
              replace hbs := hbs.out ho81 (by first | omega | (simp only [blk_some, hi1_some] at *; omega))
              replace hmp := hmp.out ho81 (by first | omega | (simp only [blk_some, hi1_some] at *; omega))
              replace hmv := hmv.out ho81 (by first | omega | (simp only [blk_some, hi1_some] at *; omega))
              replace hlp1 := hlp1.step ho81 (by first | omega | (simp only [blk_some, hi1_some] at *; omega))
              have hMn : DMem bst bm bs _ rows ap cp B _ at_ pl := ⟨(⟨_, _, _, hbs, hbst, hHq2, hmp, hmv.wide (by omega), hSl, hSn, d1, d2, by omega⟩ : ∃ H mad mc, _)⟩
              refine rg_end ?_
              refine n_blk ?_
              refine n_then ?_
              refine rg ?_
              refine st (y_add rfl rfl (by omega)) ?_
              refine st (mvI rfl) ?_
              refine rg_end ?_
              exact n_then ⟨(k + 1, _), _, rfl, same_lk rfl (same_h0), ⟨rfl, trivial⟩, ⟨hlp1, by omega, hMn, heq1⟩, by first | omega | (dsimp only; omega)⟩
        ·
          try simp only [decide_eq_true_eq, decide_eq_false_iff_not, Bool.not_eq_true', Bool.not_eq_false', Bool.and_eq_true, Bool.or_eq_true, Bool.or_eq_false_iff, Bool.cond_true_right, Bool.cond_false_right, Bool.cond_true_left, Bool.cond_false_left, ne_eq, Decidable.not_not, bne_iff_ne, beq_iff_eq, beq_eq_false_iff_ne, Bool.not_true, Bool.not_false] at hc3
          rw [exL_end (by omega)] at heq
          refine wp_exit ?_
          refine e_then (e_then (e_blk (?_)))
          refine n_then ?_
          refine wp_seq ?_
          refine rg ?_
          refine st (asI rfl) ?_
          refine rg_end ?_
          refine n_then ?_
          refine wp_ret ?_
          refine ret1 (v := (.int .i64 _)) Try.results38 rfl ?_
          rw [heq]
          exact ⟨at_, rfl, by rw [List.append_nil]; exact hM, (fun _ => ⟨rfl, rfl⟩), hE⟩
end Go.Proofs.Yteicgnmggkhlbaa
