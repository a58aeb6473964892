/-
  Walks of the functions, printed by a program out of the code and the loops' relations.
-/
import Derived.Test.YteicgnmggkhlbaaWkH
import Derived.Test.YteicgnmggkhlbaaProg
import Derived.KernelRfl
import Derived.Test.YteicgnmggkhlbaaP10
namespace Go.Proofs.Yteicgnmggkhlbaa
open Go.Wk Go.RowKit
set_option linter.unusedVariables false
set_option linter.unusedSimpArgs false
theorem bsl66_1 (d0 : Option Addr) (l0 : Nat) (c0 : Nat) (w : World) : (Instr.buildSlice 66 1 [(0, (.slice d0 l0 c0))].toArray).run Try.prog w = .ok (.slice (some ⟨w.heap.size, 0, none⟩) 1 1) (w.alloc (.cells [(.slice d0 l0 c0)].toArray 22)) := by kernel_rfl
theorem cl21 : Callable Try.prog 21 := ⟨Try.call21⟩
theorem cl44 : Callable Try.prog 44 := ⟨Try.call44⟩
theorem cl52 : Callable Try.prog 52 := ⟨Try.call52⟩
theorem fld68_0 : FieldOf Try.prog 68 0 0 := fun b o w => by simp [Instr.fieldAt, fieldPlace, Instr.sureAddr, Addr.add_lit]
theorem fld68_1 : FieldOf Try.prog 68 1 1 := fun b o w => by simp [Instr.fieldAt, fieldPlace, Instr.sureAddr, Addr.add_lit]
theorem fld68_2 : FieldOf Try.prog 68 2 2 := fun b o w => by simp [Instr.fieldAt, fieldPlace, Instr.sureAddr, Addr.add_lit]
theorem fld68_4 : FieldOf Try.prog 68 4 4 := fun b o w => by simp [Instr.fieldAt, fieldPlace, Instr.sureAddr, Addr.add_lit]
set_option maxRecDepth 100000 in
theorem infoz22 : ∃ i, Try.prog.info? 22 = some i ∧ i.zero = some (.slice none 0 0) ∧ i.size = 1 ∧ i.bytes = 24 ∧ (Value.cells (.slice none 0 0)).size = 1 := ⟨Try.t22, Try.type22, rfl, rfl, rfl, rfl⟩
theorem sz66 : SzOf Try.prog 66 1 := Try.sizeOf66

def usR (B : Int) (R : Ex) : Int := if R.c = 15 then B + 1 else (R.seen.length : Int)
def plR (R : Ex) (pl : List Int) : List Int := if R.c = 0 then pl ++ R.plan else pl
theorem exL_c {rows : List Pw} {f : List (List Int) → List Int → Ex} {at_ : List Int} (hf : ∀ S a, (f S a).c = 0 ∨ (f S a).c = 15 ∨ (f S a).c = 19) : ∀ (j t : Nat) (S : List (List Int)), (exL rows f at_ j t S).c = 0 ∨ (exL rows f at_ j t S).c = 15 ∨ (exL rows f at_ j t S).c = 19
  | 0, t, S => .inr (.inr rfl)
  | j + 1, t, S => by
    unfold exL
    split
    · split
      · exact exL_c hf j (t + 1) _
      · exact hf _ _
    · exact exL_c hf j (t + 1) _
theorem exB_c {rows : List Pw} {B : Int} {f : List (List Int) → List Int → Ex} (hf : ∀ S a, (f S a).c = 0 ∨ (f S a).c = 15 ∨ (f S a).c = 19) (S : List (List Int)) (a : List Int) : (exB rows B f S a).c = 0 ∨ (exB rows B f S a).c = 15 ∨ (exB rows B f S a).c = 19 := by
  unfold exB
  split
  · exact .inr (.inl rfl)
  · split
    · exact .inl rfl
    · exact exL_c hf _ _ _
theorem exm_c {rows : List Pw} {B : Int} : ∀ (m : Nat) (S : List (List Int)) (a : List Int), (exm rows B m S a).c = 0 ∨ (exm rows B m S a).c = 15 ∨ (exm rows B m S a).c = 19
  | 0, S, a => exB_c (fun _ _ => .inr (.inr rfl)) S a
  | m + 1, S, a => exB_c (exm_c m) S a
theorem usR_lt {B : Int} {R : Ex} (h : (R.seen.length : Int) ≤ B) (hu : B < usR B R) : R.c = 15 := by
  unfold usR at hu
  by_cases e : R.c = 15
  · exact e
  · rw [if_neg e] at hu; omega
theorem usR_ge {B : Int} {R : Ex} (hu : ¬ B < usR B R) : R.c ≠ 15 := fun e => by unfold usR at hu; rw [if_pos e] at hu; omega

theorem mem_mid {α : Type} {a b : List α} {r x : α} (h : x ∈ (a ++ [r]) ++ b) : x ∈ r :: (a ++ b) := by
  rcases List.mem_append.1 h with h | h
  · rcases List.mem_append.1 h with h | h
    · exact List.mem_cons_of_mem _ (List.mem_append_left _ h)
    · rw [List.mem_singleton.1 h]; exact List.mem_cons_self
  · exact List.mem_cons_of_mem _ (List.mem_append_right _ h)
theorem mem_mid2 {α : Type} {a b : List α} {r x : α} (h : x ∈ a ++ r :: b) : x ∈ r :: (a ++ b) := by
  simp only [List.mem_append, List.mem_cons] at h ⊢
  rcases h with h | h | h
  · exact .inr (.inl h)
  · exact .inl h
  · exact .inr (.inr h)
theorem usR_eq {B : Int} {R : Ex} (h : R.c ≠ 15) : usR B R = (R.seen.length : Int) := by unfold usR; rw [if_neg h]

set_option maxHeartbeats 4000000 in
set_option maxRecDepth 100000 in
theorem ref35_examB_ok (rows : List Pw) (ap : Option Addr) (cp l_ h_ bs : Nat) (B : Int) (S0 : List (List Int)) (K : List Rw) (at_ pl : List Int) (aa : Option Addr) (ca m : Nat) (f : List (List Int) → List Int → Ex) (w : World) (hP : PIn l_ h_ w ap rows) (hM : RMe bs w rows ap cp B (S0.length : Int) S0 K pl) (hK : ⟨aa, ca, at_⟩ ∈ K) (hm : m = at_.length) (hva : VaP rows) (hg : GoP rows at_) (hlb : h_ ≤ bs) (hB1 : B ≤ 1048576) (hpm : pl.length ≤ 700) (hf : ∀ S a, (f S a).c = 0 ∨ (f S a).c = 15 ∨ (f S a).c = 19) (ih : ∀ (t : Nat) (S' : List (List Int)) (aa' : Option Addr) (ca' m' : Nat) (w : World), t < rows.length → movB rows at_ (t : Int) = true → ¬ nxA at_ t ∈ S' → PIn l_ h_ w ap rows → m' = (nxA at_ t).length → RMe bs w rows ap cp B (S'.length : Int) S' (⟨aa', ca', nxA at_ t⟩ :: K) (pl ++ [(t : Int)]) → Cal Try.prog 44 [.pointer (some ⟨bs, 0, none⟩), .slice aa' m' ca'] w (fun v w' => v = .bool (decide ((f S' (nxA at_ t)).c = 0)) ∧ RMe bs w' rows ap cp B (usR B (f S' (nxA at_ t))) (f S' (nxA at_ t)).seen (⟨aa', ca', nxA at_ t⟩ :: K) (plR (f S' (nxA at_ t)) (pl ++ [(t : Int)])) ∧ Out bs w.heap.size w w'))  : Cal Try.prog 44 [.pointer (some ⟨bs, 0, none⟩), .slice aa m ca] w (fun v w' => v = .bool (decide ((exB rows B f S0 at_).c = 0)) ∧ RMe bs w' rows ap cp B (usR B (exB rows B f S0 at_)) (exB rows B f S0 at_).seen K (plR (exB rows B f S0 at_) pl) ∧ Out bs w.heap.size w w') := by
  subst hm
  obtain ⟨sa, sq, pa, pc, sn, hbs, hsa, hpa, hsn, hrw, dsp, hSl, hSn, d3⟩ := hM.ex
  have hsr := hsa.rng
  have hpr := hpa.rng
  obtain ⟨la, ha_, hA, hA2, hA3⟩ := (hrw.row ⟨aa, ca, at_⟩ (List.mem_append_right _ hK)).ex
  dsimp only at hA
  have hsnl : sn.length = S0.length := by rw [← hsn, List.length_map]
  have hl := hg.len
  have hrl := hva.len
  have hpn : (rows.length : Int) ≤ 9223372036854775807 := by omega
  have hE : Out bs w.heap.size w w := Out.refl _ _ w
  refine enter Try.func44 rfl Try.ntmps44 rfl ?_
  refine wp_seq ?_
  refine rg ?_
  refine st (asB rfl) ?_
  refine rg_end ?_
  refine n_then ?_
  refine wp_seq ?_
  refine rg ?_
  refine st (mvP rfl) ?_
  refine st (y_nil rfl) ?_
  refine st (y_fld fld68_2 rfl) ?_
  refine st (y_lb hbs na3 rfl rfl) ?_
  refine st (y_add rfl rfl (by omega)) ?_
  refine st (y_nil rfl) ?_
  refine st (y_fld fld68_2 rfl) ?_
  refine sd0 (d_st hbs sz3 rfl rfl rfl (Nat.le_of_ble_eq_true rfl) ?_)
  intro w1 hs3 ho2 hbs'
  clear hbs; have hbs := hbs'; clear hbs'
  have hz4 := ho2.size
  have hrnhsa := hsa.rng
  replace hsa := hsa.out ho2 (by first | omega | (simp only [blk_some, hi1_some] at *; omega))
  have hrnhpa := hpa.rng
  replace hpa := hpa.out ho2 (by first | omega | (simp only [blk_some, hi1_some] at *; omega))
  replace hrw := hrw.out ho2 (by first | omega | (simp only [blk_some, hi1_some] at *; omega))
  replace hP := hP.out ho2 (by first | omega | (simp only [blk_some, hi1_some] at *; omega))
  replace hA := hA.out ho2 (by first | omega | (simp only [blk_some, hi1_some] at *; omega))
  replace hE := hE.step ho2 (by first | omega | (simp only [blk_some, hi1_some] at *; omega))
  refine rg_end ?_
  refine n_then ?_
  refine wp_seq ?_
  refine wp_seq ?_
  refine rgD 8 (fun w_ => Ext w1 w_) (fun i => false) mixed (by kernel_rfl) ?_
  intro w5 ho6 hs7
  refine ⟨ho6, ?_⟩
  have hx8 := ho6
  refine tn rfl (fun _ hG => mvP rfl) ?_
  refine tn rfl (fun _ hG => y_nil rfl) ?_
  refine tn rfl (fun _ hG => y_fld fld68_2 rfl) ?_
  refine tn rfl (fun _ hG => y_lb (hbs.ext hG) na3 rfl rfl) ?_
  refine tn rfl (fun _ hG => mvP rfl) ?_
  refine tn rfl (fun _ hG => y_nil rfl) ?_
  refine tn rfl (fun _ hG => y_fld fld68_1 rfl) ?_
  refine tn rfl (fun _ hG => y_lb (hbs.ext hG) na3 rfl rfl) ?_
  refine t_end ?_
  have hz9 := hx8.size
  replace hbs := hbs.ext hx8
  replace hsa := hsa.ext hx8
  replace hpa := hpa.ext hx8
  replace hrw := hrw.ext hx8
  replace hP := hP.ext hx8
  replace hA := hA.ext hx8
  replace hE := hE.step hx8 (.inl (Nat.le_refl _))
  refine st (y_gtr rfl rfl) ?_
  refine rg_end ?_
  refine n_then ?_
  refine cnd rfl (fun hc0 => ?_) (fun hc0 => ?_)
  ·
    try simp only [decide_eq_true_eq, decide_eq_false_iff_not, Bool.not_eq_true', Bool.not_eq_false', Bool.and_eq_true, Bool.or_eq_true, Bool.or_eq_false_iff, Bool.cond_true_right, Bool.cond_false_right, Bool.cond_true_left, Bool.cond_false_left, ne_eq, Decidable.not_not, bne_iff_ne, beq_iff_eq, beq_eq_false_iff_ne, Bool.not_true, Bool.not_false] at hc0
    have hSB : (S0.length : Int) = B := by omega
    have hex : exB rows B f S0 at_ = ⟨15, S0, []⟩ := if_pos hSB
    refine wp_seq ?_
    refine rg ?_
    refine st (asB rfl) ?_
    refine rg_end ?_
    refine n_then ?_
    refine wp_ret ?_
    refine r_then (ret1 (v := (.bool _)) Try.results44 rfl ?_)
    rw [hex]
    exact ⟨rfl, ⟨⟨_, _, _, _, _, (by rw [show usR B ⟨15, S0, []⟩ = (S0.length : Int) + 1 by unfold usR; rw [if_pos rfl, hSB]]; exact hbs), hsa.wide (by omega), hpa.wide (by omega), hsn, hrw.wide (by omega), dsp, hSl, hSn, by omega⟩⟩, hE⟩
  ·
    try simp only [decide_eq_true_eq, decide_eq_false_iff_not, Bool.not_eq_true', Bool.not_eq_false', Bool.and_eq_true, Bool.or_eq_true, Bool.or_eq_false_iff, Bool.cond_true_right, Bool.cond_false_right, Bool.cond_true_left, Bool.cond_false_left, ne_eq, Decidable.not_not, bne_iff_ne, beq_iff_eq, beq_eq_false_iff_ne, Bool.not_true, Bool.not_false] at hc0
    have hex0 : ¬ ((S0.length : Int) = B) := by omega
    refine wp_skip ?_
    refine n_then ?_
    refine wp_seq ?_
    obtain ⟨z4, hz4⟩ : ∃ z, z = w5.heap.size := ⟨_, rfl⟩
    replace hrw := hrw.wide (show _ ≤ z4 by omega)
    refine rgD 9 (fun w_ => Out (blk sa) (hi1 sa) w5 w_) (fun i => Nat.beq i 6 || Nat.beq i 7 || Nat.beq i 8) mixed (by kernel_rfl) ?_
    intro w10 ho11 hs12
    refine ⟨ho11.wide (.inl (Nat.le_refl _)), ?_⟩
    have hx13 := ho11.wide (a' := (blk sa)) (b' := (hi1 sa)) (.inl (Nat.le_refl _))
    replace hsa := hsa.ext ho11
    refine tn rfl (fun _ hG => mvP rfl) ?_
    refine tn rfl (fun _ hG => mvP rfl) ?_
    refine tn rfl (fun _ hG => y_nil rfl) ?_
    refine tn rfl (fun _ hG => y_fld fld68_3 rfl) ?_
    refine tn rfl (fun _ hG => y_lb (hbs.out hG (by first | omega | (simp only [blk_some, hi1_some] at *; omega))) na66 rfl rfl) ?_
    refine tn rfl (fun _ hG => mvS rfl) ?_
    have hro := Ow.nil (E := 3) (sz := 1) (enc := encI) (lo := z4) (hi := 0) (w := w10) (fun _ => rfl)
    have hrhro := hro.rng
    refine td rfl (d_appN (xs := at_) hro sl22 infoz3 (by decide) rfl rfl rfl (rfl) ((hA.out hx13 (by first | omega | (simp only [blk_some, hi1_some] at *; omega)))) (fun _ => rfl) (by simp; unfold maxLen; omega) (by simp; omega) (by omega) (Nat.zero_le _) ?_)
    intro ra rc w14 ho15 hro'
    have hs16 := ho15.size
    clear hro; have hro := hro'; clear hro'
    replace ho15 : Ext _ _ := ho15
    have hx19 := hx13.step ho15 (.inl (Nat.le_refl _))
    have hz20 := ho15.size
    replace hsa := hsa.ext ho15
    refine ⟨hx19, ?_⟩
    simp only [List.nil_append] at hro ⊢
    have hror := hro.rng
    refine td rfl (d_bs (bsl66_1 _ _ _ _) rfl ?_)
    intro b7 w21 hbb7 hs23 ho22 hb7
    have hx24 := hx19.step ho22 (.inl (Nat.le_refl _))
    have hz25 := ho22.size
    replace hro := hro.ext ho22
    replace hsa := hsa.ext ho22
    refine ⟨hx24, ?_⟩
    have hrhsa := hsa.rng
    refine td rfl (d_appA (xs := [(⟨ra, rc, at_⟩ : Rw)]) hsa sl66 infoz22 (by decide) rfl rfl rfl rfl (hb7) (fun _ => rfl) (by simp; unfold maxLen; omega) (by simp; omega) (by omega) (by omega) ?_)
    intro sa1 sc1 w26 hat hoA hsa'
    have hs27 := hoA.size
    clear hsa; have hsa := hsa'; clear hsa'
    have hx30 : Out (blk sa) (hi1 sa) w5 w26 := hx24.step hoA (by first | omega | (simp only [blk_some, hi1_some] at *; omega))
    replace hb7 := hb7.out hoA (by first | omega | (simp only [blk_some, hi1_some] at *; omega))
    replace hro := hro.out hoA (by first | omega | (simp only [blk_some, hi1_some] at *; omega))
    refine ⟨hx30, ?_⟩
    have hsr1 := hsa.rng
    have hror2 := hro.rng
    refine t_end ?_
    have hz31 := hx30.size
    replace hbs := hbs.out hx30 (by first | omega | (simp only [blk_some, hi1_some] at *; omega))
    replace hpa := hpa.out hx30 (by first | omega | (simp only [blk_some, hi1_some] at *; omega))
    replace hrw := hrw.out hx30 (by first | omega | (simp only [blk_some, hi1_some] at *; omega))
    replace hP := hP.out hx30 (by first | omega | (simp only [blk_some, hi1_some] at *; omega))
    replace hA := hA.out hx30 (by first | omega | (simp only [blk_some, hi1_some] at *; omega))
    replace hE := hE.step hx30 (by first | omega | (simp only [blk_some, hi1_some] at *; omega))
    refine st (y_nil rfl) ?_
    refine st (y_fld fld68_3 rfl) ?_
    refine sd0 (d_st hbs sz66 rfl rfl rfl (Nat.le_of_ble_eq_true rfl) ?_)
    intro w32 hs34 ho33 hbs'
    clear hbs; have hbs := hbs'; clear hbs'
    have hz35 := ho33.size
    replace hpa := hpa.out ho33 (by first | omega | (simp only [blk_some, hi1_some] at *; omega))
    replace hrw := hrw.out ho33 (by first | omega | (simp only [blk_some, hi1_some] at *; omega))
    replace hP := hP.out ho33 (by first | omega | (simp only [blk_some, hi1_some] at *; omega))
    replace hA := hA.out ho33 (by first | omega | (simp only [blk_some, hi1_some] at *; omega))
    replace hE := hE.step ho33 (by first | omega | (simp only [blk_some, hi1_some] at *; omega))
    have hrnhro := hro.rng
    replace hro := hro.out ho33 (by first | omega | (simp only [blk_some, hi1_some] at *; omega))
    replace hb7 := hb7.out ho33 (by first | omega | (simp only [blk_some, hi1_some] at *; omega))
    have hrnhsa := hsa.rng
    replace hsa := hsa.out ho33 (by first | omega | (simp only [blk_some, hi1_some] at *; omega))
    have hrw1 := (hrw.setA hat (by omega)).wide (show _ ≤ w32.heap.size by omega)
    have hrn1 : RowS bs w32.heap.size w32 sa1 pa ⟨ra, rc, at_⟩ := RowS.own (hro.wide (by omega)) (by dsimp only; omega) (by dsimp only; omega) (by dsimp only; omega)
    have hrw2 := (hrw1.add hrn1).sub (L' := (sn ++ [⟨ra, rc, at_⟩]) ++ K) (fun x hx => mem_mid hx)
    have dsp1 : hi1 sa1 ≤ blk pa ∨ hi1 pa ≤ blk sa1 := by omega
    clear hrw hrw1 dsp; have hrw := hrw2; clear hrw2; have dsp := dsp1; clear dsp1
    have hsn1 : (sn ++ [(⟨ra, rc, at_⟩ : Rw)]).map (·.l) = S0 ++ [at_] := by simp [hsn]
    have hSl1 : ((S0 ++ [at_]).length : Int) ≤ B := by simp; omega
    have hSn1 : ∀ x ∈ S0 ++ [at_], x.length = rows.length := fun x hx => by
      rcases List.mem_append.1 hx with q | q
      · exact hSn x q
      · rw [List.mem_singleton.1 q]; exact hl
    replace hbs : Blk w32 bs [.slice ap rows.length cp, .int .i64 B, .int .i64 ((S0 ++ [at_]).length : Int), .slice sa1 (sn ++ [(⟨ra, rc, at_⟩ : Rw)]).length sc1, .slice pa pl.length pc] := by rw [show ((S0 ++ [at_]).length : Int) = (S0.length : Int) + 1 by simp]; exact hbs
    refine rg_end ?_
    refine n_then ?_
    refine wp_seq ?_
    refine wp_seq ?_
    refine rg ?_
    refine st (mvP rfl) ?_
    refine st (y_nil rfl) ?_
    refine st (y_fld fld68_0 rfl) ?_
    refine st (y_lb hbs na23 rfl rfl) ?_
    refine st (mvS rfl) ?_
    refine sc cl21 (ref35_Left_ok rows _ _ _ _ at_ _ _ _ _ _ hP hpn hA hl) rfl ?_
    rintro v40 w36 ⟨rfl, ho37⟩
    have hz41 := ho37.size
    replace hbs := hbs.ext ho37
    replace hpa := hpa.ext ho37
    replace hrw := hrw.ext ho37
    replace hP := hP.ext ho37
    replace hA := hA.ext ho37
    replace hE := hE.step ho37 (.inl (Nat.le_refl _))
    replace hro := hro.ext ho37
    replace hb7 := hb7.ext ho37
    replace hsa := hsa.ext ho37
    refine rg_end ?_
    refine n_then ?_
    refine cnd rfl (fun hc1 => ?_) (fun hc1 => ?_)
    ·
      try simp only [decide_eq_true_eq, decide_eq_false_iff_not, Bool.not_eq_true', Bool.not_eq_false', Bool.and_eq_true, Bool.or_eq_true, Bool.or_eq_false_iff, Bool.cond_true_right, Bool.cond_false_right, Bool.cond_true_left, Bool.cond_false_left, ne_eq, Decidable.not_not, bne_iff_ne, beq_iff_eq, beq_eq_false_iff_ne, Bool.not_true, Bool.not_false] at hc1
      have hex : exB rows B f S0 at_ = ⟨0, S0 ++ [at_], []⟩ := by unfold exB; rw [if_neg hex0, if_pos hc1]
      refine wp_seq ?_
      refine rg ?_
      refine st (asB rfl) ?_
      refine rg_end ?_
      refine n_then ?_
      refine wp_ret ?_
      refine r_then (ret1 (v := (.bool _)) Try.results44 rfl ?_)
      rw [hex]
      exact ⟨rfl, by rw [show plR ⟨0, S0 ++ [at_], []⟩ pl = pl by unfold plR; simp]; exact ⟨⟨_, _, _, _, _, hbs, hsa.wide (by omega), hpa.wide (by omega), hsn1, hrw.wide (by omega), dsp, hSl1, hSn1, by omega⟩⟩, hE⟩
    ·
      try simp only [decide_eq_true_eq, decide_eq_false_iff_not, Bool.not_eq_true', Bool.not_eq_false', Bool.and_eq_true, Bool.or_eq_true, Bool.or_eq_false_iff, Bool.cond_true_right, Bool.cond_false_right, Bool.cond_true_left, Bool.cond_false_left, ne_eq, Decidable.not_not, bne_iff_ne, beq_iff_eq, beq_eq_false_iff_ne, Bool.not_true, Bool.not_false] at hc1
      have hex : exB rows B f S0 at_ = exL rows f at_ rows.length 0 (S0 ++ [at_]) := by unfold exB; rw [if_neg hex0, if_neg (by rw [hc1]; decide)]
      refine wp_skip ?_
      refine n_then ?_
      refine wp_seq ?_
      refine wp_seq ?_
      refine rg ?_
      refine st (mvP rfl) ?_
      refine st (y_nil rfl) ?_
      refine st (y_fld fld68_0 rfl) ?_
      refine st (y_lb hbs na23 rfl rfl) ?_
      refine st (y_len Try.underlying23 rfl) ?_
      refine st (mvI rfl) ?_
      refine rg_end ?_
      refine n_then ?_
      refine wp_block ?_
      obtain ⟨z1, hz1⟩ : ∃ z, z = w36.heap.size := ⟨_, rfl⟩
      have hM0 : RMe bs w36 rows ap cp B ((S0 ++ [at_]).length : Int) (S0 ++ [at_]) K pl := ⟨⟨_, _, _, _, _, hbs, hsa.wide (by omega), hpa.wide (by omega), hsn1, hrw.wide (by omega), dsp, hSl1, hSn1, by omega⟩⟩
      clear hSl hSn hsn dsp d3 hsnl
      refine lp (γ := Nat × List (List Int)) [4, 5, 6, 45, 46, 47, 48, 49, 50, 51, 52, 53, 54, 55, 56, 57, 58, 59, 60, 61, 62, 63, 64, 65, 66, 67, 68, 69, 70, 71, 72, 73, 74, 75, 76, 77, 78, 79, 80, 81, 82, 83, 84, 85, 86, 87, 88, 89, 90, 91, 92, 93, 94, 95, 96, 97, 98, 99, 100, 101, 102, 103] (fun ⟨k, S⟩ => [(45, .int .i64 (k : Int))]) (fun ⟨k, S⟩ w_ => Out bs z1 w36 w_ ∧ (k : Int) ≤ rows.length ∧ RMe bs w_ rows ap cp B (S.length : Int) S K pl ∧ exB rows B f S0 at_ = exL rows f at_ (rows.length - k) k S) (fun ⟨k, S⟩ => rows.length - k) (0, S0 ++ [at_]) ⟨rfl, trivial⟩ ⟨Out.refl _ _ _, by omega, hM0, hex⟩ ?_
      rintro ⟨k, S⟩ hav_ w42 ⟨ho43, hk_, hM, heq⟩
      have hlp0 := ho43
      have hz44 := ho43.size
      replace hP := hP.out ho43 (by first | omega | (simp only [blk_some, hi1_some] at *; omega))
      replace hE := hE.stepT ho43 (Nat.le_refl _) (by omega)
      clear hbs hsa hpa hrw hA
      obtain ⟨sa, sq, pa, pc, sn, hbs, hsa, hpa, hsn, hrw, dsp, hSl, hSn, d3⟩ := hM.ex
      have hsr := hsa.rng
      have hpr := hpa.rng
      obtain ⟨la, ha_, hA, hA2, hA3⟩ := (hrw.row ⟨aa, ca, at_⟩ (List.mem_append_right _ hK)).ex
      dsimp only at hA
      have hsnl : sn.length = S.length := by rw [← hsn, List.length_map]
      refine wp_seq ?_
      refine rg ?_
      refine st (y_lss rfl rfl) ?_
      refine rg_end ?_
      refine n_then ?_
      refine wp_seq ?_
      refine cnd rfl (fun hc2 => ?_) (fun hc2 => ?_)
      ·
        try simp only [decide_eq_true_eq, decide_eq_false_iff_not, Bool.not_eq_true', Bool.not_eq_false', Bool.and_eq_true, Bool.or_eq_true, Bool.or_eq_false_iff, Bool.cond_true_right, Bool.cond_false_right, Bool.cond_true_left, Bool.cond_false_left, ne_eq, Decidable.not_not, bne_iff_ne, beq_iff_eq, beq_eq_false_iff_ne, Bool.not_true, Bool.not_false] at hc2
        have hgk := hg.rng k (by omega)
        have hl2 := (va_row hva (k := k) (by omega)).l2
        refine wp_skip ?_
        refine n_then ?_
        refine wp_seq ?_
        refine wp_block ?_
        refine wp_seq ?_
        refine rg ?_
        refine st (mvI rfl) ?_
        refine st (asI rfl) ?_
        refine rg_end ?_
        refine n_then ?_
        refine wp_seq ?_
        refine wp_seq ?_
        refine rg ?_
        refine st (mvP rfl) ?_
        refine st (y_nil rfl) ?_
        refine st (y_fld fld68_0 rfl) ?_
        refine st (y_lb hbs na23 rfl rfl) ?_
        refine st (mvS rfl) ?_
        refine st (mvI rfl) ?_
        refine sc cl39 (ref35_movable_ok rows _ _ _ _ at_ _ _ _ _ k _ hP hpn hA hg (by omega) hva) rfl ?_
        rintro v49 w45 ⟨rfl, ho46⟩
        have hz50 := ho46.size
        replace hP := hP.ext ho46
        replace hE := hE.step ho46 (.inl (Nat.le_refl _))
        replace hbs := hbs.ext ho46
        replace hsa := hsa.ext ho46
        replace hpa := hpa.ext ho46
        replace hrw := hrw.ext ho46
        replace hA := hA.ext ho46
        replace hlp0 := hlp0.step ho46 (.inl (Nat.le_refl _))
        refine st (y_not rfl) ?_
        refine rg_end ?_
        refine n_then ?_
        refine cnd rfl (fun hc3 => ?_) (fun hc3 => ?_)
        ·
          try simp only [decide_eq_true_eq, decide_eq_false_iff_not, Bool.not_eq_true', Bool.not_eq_false', Bool.and_eq_true, Bool.or_eq_true, Bool.or_eq_false_iff, Bool.cond_true_right, Bool.cond_false_right, Bool.cond_true_left, Bool.cond_false_left, ne_eq, Decidable.not_not, bne_iff_ne, beq_iff_eq, beq_eq_false_iff_ne, Bool.not_true, Bool.not_false] at hc3
          have hMn : RMe bs w45 rows ap cp B (S.length : Int) S K pl := ⟨⟨_, _, _, _, _, hbs, hsa.wide (by omega), hpa.wide (by omega), hsn, hrw.wide (by omega), dsp, hSl, hSn, by omega⟩⟩
          have heq1 := heq.trans (exL_skip (by omega) (fun q => by rw [hc3] at q; exact absurd q.1 (by decide)))
          refine wp_exit ?_
          refine e_then (e_blk (?_))
          refine n_then ?_
          refine rg ?_
          refine st (y_add rfl rfl (by omega)) ?_
          refine st (mvI rfl) ?_
          refine rg_end ?_
          exact n_then ⟨(k + 1, _), _, rfl, same_lk rfl (same_h0), ⟨rfl, trivial⟩, ⟨hlp0, by omega, hMn, heq1⟩, by first | omega | (dsimp only; omega)⟩
        ·
          try simp only [decide_eq_true_eq, decide_eq_false_iff_not, Bool.not_eq_true', Bool.not_eq_false', Bool.and_eq_true, Bool.or_eq_true, Bool.or_eq_false_iff, Bool.cond_true_right, Bool.cond_false_right, Bool.cond_true_left, Bool.cond_false_left, ne_eq, Decidable.not_not, bne_iff_ne, beq_iff_eq, beq_eq_false_iff_ne, Bool.not_true, Bool.not_false] at hc3
          have hmv_ : movB rows at_ (k : Int) = true := hc3
          have hlt := movB_lt hmv_
          refine wp_skip ?_
          refine n_then ?_
          refine wp_seq ?_
          refine rg ?_
          refine st (mvS rfl) ?_
          obtain ⟨z5, hz5⟩ : ∃ z, z = w45.heap.size := ⟨_, rfl⟩
          have hnx := Ow.nil (E := 3) (sz := 1) (enc := encI) (lo := z5) (hi := 0) (w := w45) (fun _ => rfl)
          have hrhnx := hnx.rng
          refine sd (d_appN (xs := at_) hnx sl22 infoz3 (by decide) rfl rfl rfl (rfl) (hA) (fun _ => rfl) (by simp; unfold maxLen; omega) (by simp; omega) (by omega) (Nat.zero_le _) ?_)
          intro na nc w51 ho52 hnx'
          have hs53 := ho52.size
          clear hnx; have hnx := hnx'; clear hnx'
          have hz56 := ho52.size
          replace hP := hP.out ho52 (by first | omega | (simp only [blk_some, hi1_some] at *; omega))
          replace hE := hE.step ho52 (by first | omega | (simp only [blk_some, hi1_some] at *; omega))
          replace hbs := hbs.out ho52 (by first | omega | (simp only [blk_some, hi1_some] at *; omega))
          have hrnhsa := hsa.rng
          replace hsa := hsa.out ho52 (by first | omega | (simp only [blk_some, hi1_some] at *; omega))
          have hrnhpa := hpa.rng
          replace hpa := hpa.out ho52 (by first | omega | (simp only [blk_some, hi1_some] at *; omega))
          replace hrw := hrw.out ho52 (by first | omega | (simp only [blk_some, hi1_some] at *; omega))
          replace hA := hA.out ho52 (by first | omega | (simp only [blk_some, hi1_some] at *; omega))
          replace hlp0 := hlp0.step ho52 (by first | omega | (simp only [blk_some, hi1_some] at *; omega))
          simp only [List.nil_append] at hnx ⊢
          have hnxr := hnx.rng
          refine st (asS rfl) ?_
          refine rg_end ?_
          refine n_then ?_
          refine wp_seq ?_
          refine rg ?_
          refine st (mvS rfl) ?_
          refine st (mvI rfl) ?_
          refine st (y_ix hnx.sl sl22 rfl (rfl) rfl (by omega) (by omega)) ?_
          refine st (y_le hnx.sl na3 rfl (by omega) (by omega) rfl) ?_
          refine st (y_add rfl rfl (by omega)) ?_
          refine st (y_ix hnx.sl sl22 rfl (rfl) rfl (by omega) (by omega)) ?_
          refine sd0 (d_se (j := 0) (e' := (el at_ (k : Int) + 1)) hnx sz3 rfl rfl rfl (by omega) (by omega) (Nat.le_of_ble_eq_true rfl) rfl ?_)
          intro w57 hs59 ho58 hnx'
          have hrhnx := hnx.rng
          clear hnx; have hnx := hnx'; clear hnx'
          have hz60 := ho58.size
          replace hP := hP.out ho58 (by first | omega | (simp only [blk_some, hi1_some] at *; omega))
          replace hE := hE.step ho58 (by first | omega | (simp only [blk_some, hi1_some] at *; omega))
          replace hbs := hbs.out ho58 (by first | omega | (simp only [blk_some, hi1_some] at *; omega))
          replace hsa := hsa.out ho58 (by first | omega | (simp only [blk_some, hi1_some] at *; omega))
          replace hpa := hpa.out ho58 (by first | omega | (simp only [blk_some, hi1_some] at *; omega))
          replace hrw := hrw.out ho58 (by first | omega | (simp only [blk_some, hi1_some] at *; omega))
          replace hA := hA.out ho58 (by first | omega | (simp only [blk_some, hi1_some] at *; omega))
          replace hlp0 := hlp0.step ho58 (by first | omega | (simp only [blk_some, hi1_some] at *; omega))
          rw [Int.toNat_natCast] at hnx
          replace hnx : Ow 3 encI 1 z5 _ w57 na nc (nxA at_ k) := hnx
          refine rg_end ?_
          refine n_then ?_
          refine wp_seq ?_
          refine wp_seq ?_
          refine rg ?_
          refine st (mvP rfl) ?_
          refine st (mvS rfl) ?_
          refine sc cl52 (ref35_known_ok rows ap cp bs B (S.length : Int) sa sq pa pc sn K pl (nxA at_ k) na nc _ _ _ _ _ hbs hsa hrw (Ow.sl hnx) (fun r hr => by rw [nx_len, hl]; exact hSn _ (by rw [← hsn]; exact List.mem_map.2 ⟨r, hr, rfl⟩)) (by rw [nx_len]; omega) (by omega) at_.length (by rw [nx_len])) rfl ?_
          rintro v65 w61 ⟨b, rfl, hb, ho62⟩
          have hz66 := ho62.size
          replace hP := hP.ext ho62
          replace hE := hE.step ho62 (.inl (Nat.le_refl _))
          replace hbs := hbs.ext ho62
          replace hsa := hsa.ext ho62
          replace hpa := hpa.ext ho62
          replace hrw := hrw.ext ho62
          replace hA := hA.ext ho62
          replace hlp0 := hlp0.step ho62 (.inl (Nat.le_refl _))
          replace hnx := hnx.ext ho62
          refine rg_end ?_
          refine n_then ?_
          refine cnd rfl (fun hc4 => ?_) (fun hc4 => ?_)
          ·
            try simp only [decide_eq_true_eq, decide_eq_false_iff_not, Bool.not_eq_true', Bool.not_eq_false', Bool.and_eq_true, Bool.or_eq_true, Bool.or_eq_false_iff, Bool.cond_true_right, Bool.cond_false_right, Bool.cond_true_left, Bool.cond_false_left, ne_eq, Decidable.not_not, bne_iff_ne, beq_iff_eq, beq_eq_false_iff_ne, Bool.not_true, Bool.not_false] at hc4
            have hin : nxA at_ k ∈ S := by rw [← hsn]; exact hb.1 hc4
            have heq1 := heq.trans (exL_skip (by omega) (fun q => q.2 hin))
            have hMn : RMe bs w61 rows ap cp B (S.length : Int) S K pl := ⟨⟨_, _, _, _, _, hbs, hsa.wide (by omega), hpa.wide (by omega), hsn, hrw.wide (by omega), dsp, hSl, hSn, by omega⟩⟩
            refine wp_exit ?_
            refine e_then (e_blk (?_))
            refine n_then ?_
            refine rg ?_
            refine st (y_add rfl rfl (by omega)) ?_
            refine st (mvI rfl) ?_
            refine rg_end ?_
            exact n_then ⟨(k + 1, _), _, rfl, same_lk rfl (same_h0), ⟨rfl, trivial⟩, ⟨hlp0, by omega, hMn, heq1⟩, by first | omega | (dsimp only; omega)⟩
          ·
            try simp only [decide_eq_true_eq, decide_eq_false_iff_not, Bool.not_eq_true', Bool.not_eq_false', Bool.and_eq_true, Bool.or_eq_true, Bool.or_eq_false_iff, Bool.cond_true_right, Bool.cond_false_right, Bool.cond_true_left, Bool.cond_false_left, ne_eq, Decidable.not_not, bne_iff_ne, beq_iff_eq, beq_eq_false_iff_ne, Bool.not_true, Bool.not_false] at hc4
            have hni : ¬ nxA at_ k ∈ S := fun q => by
              rw [← hsn] at q
              have := hb.2 q
              rw [hc4] at this; cases this
            refine wp_skip ?_
            refine n_then ?_
            refine wp_seq ?_
            refine rg ?_
            refine st (mvP rfl) ?_
            refine st (mvP rfl) ?_
            refine st (y_nil rfl) ?_
            refine st (y_fld fld68_4 rfl) ?_
            refine st (y_lb hbs na22 rfl rfl) ?_
            refine st (mvI rfl) ?_
            refine sd (d_bs (bsl22_1 _ _) rfl ?_)
            intro bl70 w67 hbbl70 hs69 ho68 hbl70
            have hz71 := ho68.size
            replace hP := hP.ext ho68
            replace hE := hE.step ho68 (.inl (Nat.le_refl _))
            replace hbs := hbs.ext ho68
            replace hsa := hsa.ext ho68
            replace hpa := hpa.ext ho68
            replace hrw := hrw.ext ho68
            replace hA := hA.ext ho68
            replace hlp0 := hlp0.step ho68 (.inl (Nat.le_refl _))
            replace hnx := hnx.ext ho68
            have hrhpa := hpa.rng
            refine sd (d_appA (xs := [(k : Int)]) hpa sl22 infoz3 (by decide) rfl rfl rfl rfl (hbl70) (fun _ => rfl) (by simp; unfold maxLen; omega) (by simp; omega) (by omega) (by omega) ?_)
            intro pa1 pc1 w72 hatp hoP hpa'
            have hs73 := hoP.size
            clear hpa; have hpa := hpa'; clear hpa'
            have hz76 := hoP.size
            replace hP := hP.out hoP (by first | omega | (simp only [blk_some, hi1_some] at *; omega))
            replace hE := hE.step hoP (by first | omega | (simp only [blk_some, hi1_some] at *; omega))
            replace hbs := hbs.out hoP (by first | omega | (simp only [blk_some, hi1_some] at *; omega))
            replace hsa := hsa.out hoP (by first | omega | (simp only [blk_some, hi1_some] at *; omega))
            replace hrw := hrw.out hoP (by first | omega | (simp only [blk_some, hi1_some] at *; omega))
            replace hA := hA.out hoP (by first | omega | (simp only [blk_some, hi1_some] at *; omega))
            replace hlp0 := hlp0.step hoP (by first | omega | (simp only [blk_some, hi1_some] at *; omega))
            have hrnhnx := hnx.rng
            replace hnx := hnx.out hoP (by first | omega | (simp only [blk_some, hi1_some] at *; omega))
            have hpr1 := hpa.rng
            refine st (y_nil rfl) ?_
            refine st (y_fld fld68_4 rfl) ?_
            refine sd0 (d_st hbs sz22 rfl rfl rfl (Nat.le_of_ble_eq_true rfl) ?_)
            intro w77 hs79 ho78 hbs'
            clear hbs; have hbs := hbs'; clear hbs'
            have hz80 := ho78.size
            replace hP := hP.out ho78 (by first | omega | (simp only [blk_some, hi1_some] at *; omega))
            replace hE := hE.step ho78 (by first | omega | (simp only [blk_some, hi1_some] at *; omega))
            replace hsa := hsa.out ho78 (by first | omega | (simp only [blk_some, hi1_some] at *; omega))
            replace hrw := hrw.out ho78 (by first | omega | (simp only [blk_some, hi1_some] at *; omega))
            replace hA := hA.out ho78 (by first | omega | (simp only [blk_some, hi1_some] at *; omega))
            replace hlp0 := hlp0.step ho78 (by first | omega | (simp only [blk_some, hi1_some] at *; omega))
            replace hnx := hnx.out ho78 (by first | omega | (simp only [blk_some, hi1_some] at *; omega))
            have hrnhpa := hpa.rng
            replace hpa := hpa.out ho78 (by first | omega | (simp only [blk_some, hi1_some] at *; omega))
            have hrw1 := (hrw.setP hatp (by omega)).wide (show _ ≤ w77.heap.size by omega)
            have hrn1 : RowS bs w77.heap.size w77 sa pa1 ⟨na, nc, nxA at_ k⟩ := RowS.own (hnx.wide (by omega)) (by dsimp only; omega) (by dsimp only; omega) (by dsimp only; omega)
            have hrw2 := (hrw1.add hrn1).sub (L' := sn ++ ⟨na, nc, nxA at_ k⟩ :: K) (fun x hx => mem_mid2 hx)
            have dsp1 : hi1 sa ≤ blk pa1 ∨ hi1 pa1 ≤ blk sa := by omega
            clear hrw hrw1; have hrw := hrw2; clear hrw2; clear dsp; have dsp := dsp1; clear dsp1
            refine rg_end ?_
            refine n_then ?_
            refine wp_seq ?_
            refine wp_seq ?_
            refine rg ?_
            refine st (mvP rfl) ?_
            refine st (mvS rfl) ?_
            have hM1 : RMe bs w77 rows ap cp B (S.length : Int) S (⟨na, nc, nxA at_ k⟩ :: K) (pl ++ [(k : Int)]) := ⟨⟨_, _, _, _, _, hbs, hsa.wide (by omega), hpa.wide (by omega), hsn, hrw.wide (by omega), dsp, hSl, hSn, by omega⟩⟩
            clear hbs hsa hpa hrw hA hnx
            refine sc cl44 (ih k S na nc at_.length _ (by omega) hmv_ hni hP (by rw [nx_len]) hM1) rfl ?_
            rintro v85 w81 ⟨rfl, hM2, ho82⟩
            replace hP := hP.out ho82 (by omega)
            replace hE := hE.stepT ho82 (Nat.le_refl _) (by omega)
            replace hlp0 := hlp0.stepT ho82 (Nat.le_refl _) (by omega)
            have hzr := ho82.size
            refine rg_end ?_
            refine n_then ?_
            refine cnd rfl (fun hc5 => ?_) (fun hc5 => ?_)
            ·
              try simp only [decide_eq_true_eq, decide_eq_false_iff_not, Bool.not_eq_true', Bool.not_eq_false', Bool.and_eq_true, Bool.or_eq_true, Bool.or_eq_false_iff, Bool.cond_true_right, Bool.cond_false_right, Bool.cond_true_left, Bool.cond_false_left, ne_eq, Decidable.not_not, bne_iff_ne, beq_iff_eq, beq_eq_false_iff_ne, Bool.not_true, Bool.not_false] at hc5
              have hfin := heq.trans (exL_ret (by omega) hmv_ hni (by rw [hc5]; decide))
              refine wp_seq ?_
              refine rg ?_
              refine st (asB rfl) ?_
              refine rg_end ?_
              refine n_then ?_
              refine wp_ret ?_
              refine r_then (r_blk (r_then (r_then (r_blk (r_then (ret1 (v := (.bool _)) Try.results44 rfl ?_))))))
              rw [hfin]
              have hM4 := hM2.less
              exact ⟨vb (by simp [hc5]), (by
                rw [show plR ⟨(f S (nxA at_ k)).c, (f S (nxA at_ k)).seen, (k : Int) :: (f S (nxA at_ k)).plan⟩ pl = plR (f S (nxA at_ k)) (pl ++ [(k : Int)]) by unfold plR; rw [if_pos hc5, if_pos hc5, List.append_cons]]
                exact hM4), hE⟩
            ·
              try simp only [decide_eq_true_eq, decide_eq_false_iff_not, Bool.not_eq_true', Bool.not_eq_false', Bool.and_eq_true, Bool.or_eq_true, Bool.or_eq_false_iff, Bool.cond_true_right, Bool.cond_false_right, Bool.cond_true_left, Bool.cond_false_left, ne_eq, Decidable.not_not, bne_iff_ne, beq_iff_eq, beq_eq_false_iff_ne, Bool.not_true, Bool.not_false] at hc5
              rw [plR, if_neg hc5] at hM2
              clear hSl hSn d3 dsp hsn
              obtain ⟨sa, sq, pa, pc, sn, hbs, hsa, hpa, hsn, hrw, dsp, hSl, hSn, d3⟩ := hM2.ex
              have hsr := hsa.rng
              have hpr := hpa.rng
              have hcap := hpa.lenLe
              have hpop : (((pl ++ [(k : Int)]).length : Int) - 1).toNat = pl.length := by simp
              refine wp_skip ?_
              refine n_then ?_
              refine wp_seq ?_
              refine rgD 12 (fun w_ => Ext w81 w_) (fun i => false) mixed (by kernel_rfl) ?_
              intro w86 ho87 hs88
              refine ⟨ho87, ?_⟩
              have hx89 := ho87
              refine tn rfl (fun _ hG => mvP rfl) ?_
              refine tn rfl (fun _ hG => mvP rfl) ?_
              refine tn rfl (fun _ hG => y_nil rfl) ?_
              refine tn rfl (fun _ hG => y_fld fld68_4 rfl) ?_
              refine tn rfl (fun _ hG => y_lb (hbs.ext hG) na22 rfl rfl) ?_
              refine tn rfl (fun _ hG => mvP rfl) ?_
              refine tn rfl (fun _ hG => y_nil rfl) ?_
              refine tn rfl (fun _ hG => y_fld fld68_4 rfl) ?_
              refine tn rfl (fun _ hG => y_lb (hbs.ext hG) na22 rfl rfl) ?_
              refine tn rfl (fun _ hG => y_len Try.underlying22 rfl) ?_
              refine tn rfl (fun _ hG => y_sub rfl rfl (by omega)) ?_
              refine tn rfl (fun _ hG => y_slh sl22 rfl rfl (by simp) (by omega)) ?_
              refine t_end ?_
              have hz90 := hx89.size
              replace hP := hP.ext hx89
              replace hE := hE.step hx89 (.inl (Nat.le_refl _))
              replace hlp0 := hlp0.step hx89 (.inl (Nat.le_refl _))
              replace hbs := hbs.ext hx89
              replace hsa := hsa.ext hx89
              replace hpa := hpa.ext hx89
              replace hrw := hrw.ext hx89
              refine st (y_nil rfl) ?_
              refine st (y_fld fld68_4 rfl) ?_
              refine sd0 (d_st hbs sz22 rfl rfl rfl (Nat.le_of_ble_eq_true rfl) ?_)
              intro w91 hs93 ho92 hbs'
              clear hbs; have hbs := hbs'; clear hbs'
              have hz94 := ho92.size
              replace hP := hP.out ho92 (by first | omega | (simp only [blk_some, hi1_some] at *; omega))
              replace hE := hE.step ho92 (by first | omega | (simp only [blk_some, hi1_some] at *; omega))
              replace hlp0 := hlp0.step ho92 (by first | omega | (simp only [blk_some, hi1_some] at *; omega))
              replace hsa := hsa.out ho92 (by first | omega | (simp only [blk_some, hi1_some] at *; omega))
              replace hpa := hpa.out ho92 (by first | omega | (simp only [blk_some, hi1_some] at *; omega))
              replace hrw := hrw.out ho92 (by first | omega | (simp only [blk_some, hi1_some] at *; omega))
              replace hbs : Blk w91 bs [.slice ap rows.length cp, .int .i64 B, .int .i64 (usR B (f S (nxA at_ k))), .slice sa sn.length sq, .slice pa pl.length pc] := by rw [← hpop]; exact hbs
              replace hpa := hpa.take pl.length
              rw [List.take_left] at hpa
              have hM3 : RMe bs w91 rows ap cp B (usR B (f S (nxA at_ k))) (f S (nxA at_ k)).seen (⟨na, nc, nxA at_ k⟩ :: K) pl := ⟨⟨_, _, _, _, _, hbs, hsa.wide (by omega), hpa.wide (by omega), hsn, hrw.wide (by omega), dsp, hSl, hSn, by omega⟩⟩
              refine rg_end ?_
              refine n_then ?_
              refine wp_seq ?_
              clear hM3
              refine rgD 8 (fun w_ => Ext w91 w_) (fun i => false) mixed (by kernel_rfl) ?_
              intro w95 ho96 hs97
              refine ⟨ho96, ?_⟩
              have hx98 := ho96
              refine tn rfl (fun _ hG => mvP rfl) ?_
              refine tn rfl (fun _ hG => y_nil rfl) ?_
              refine tn rfl (fun _ hG => y_fld fld68_2 rfl) ?_
              refine tn rfl (fun _ hG => y_lb (hbs.ext hG) na3 rfl rfl) ?_
              refine tn rfl (fun _ hG => mvP rfl) ?_
              refine tn rfl (fun _ hG => y_nil rfl) ?_
              refine tn rfl (fun _ hG => y_fld fld68_1 rfl) ?_
              refine tn rfl (fun _ hG => y_lb (hbs.ext hG) na3 rfl rfl) ?_
              refine t_end ?_
              have hz99 := hx98.size
              replace hP := hP.ext hx98
              replace hE := hE.step hx98 (.inl (Nat.le_refl _))
              replace hlp0 := hlp0.step hx98 (.inl (Nat.le_refl _))
              replace hbs := hbs.ext hx98
              replace hsa := hsa.ext hx98
              replace hpa := hpa.ext hx98
              replace hrw := hrw.ext hx98
              refine st (y_gtr rfl rfl) ?_
              refine rg_end ?_
              refine n_then ?_
              refine cnd rfl (fun hc6 => ?_) (fun hc6 => ?_)
              ·
                try simp only [decide_eq_true_eq, decide_eq_false_iff_not, Bool.not_eq_true', Bool.not_eq_false', Bool.and_eq_true, Bool.or_eq_true, Bool.or_eq_false_iff, Bool.cond_true_right, Bool.cond_false_right, Bool.cond_true_left, Bool.cond_false_left, ne_eq, Decidable.not_not, bne_iff_ne, beq_iff_eq, beq_eq_false_iff_ne, Bool.not_true, Bool.not_false] at hc6
                have hc15 := usR_lt hSl hc6
                have hfin := heq.trans (exL_ret (by omega) hmv_ hni (by rw [hc15]; decide))
                refine wp_seq ?_
                refine rg ?_
                refine st (asB rfl) ?_
                refine rg_end ?_
                refine n_then ?_
                refine wp_ret ?_
                refine r_blk (r_then (r_then (r_blk (r_then (ret1 (v := (.bool _)) Try.results44 rfl ?_)))))
                rw [hfin]
                exact ⟨vb (by simp [hc5]), (by
                  rw [show plR ⟨(f S (nxA at_ k)).c, (f S (nxA at_ k)).seen, (k : Int) :: (f S (nxA at_ k)).plan⟩ pl = pl by unfold plR; rw [if_neg hc5]]
                  exact RMe.less ⟨⟨_, _, _, _, _, hbs, hsa.wide (by omega), hpa.wide (by omega), hsn, hrw.wide (by omega), dsp, hSl, hSn, by omega⟩⟩), hE⟩
              ·
                try simp only [decide_eq_true_eq, decide_eq_false_iff_not, Bool.not_eq_true', Bool.not_eq_false', Bool.and_eq_true, Bool.or_eq_true, Bool.or_eq_false_iff, Bool.cond_true_right, Bool.cond_false_right, Bool.cond_true_left, Bool.cond_false_left, ne_eq, Decidable.not_not, bne_iff_ne, beq_iff_eq, beq_eq_false_iff_ne, Bool.not_true, Bool.not_false] at hc6
                have hn15 := usR_ge hc6
                have hc19 : (f S (nxA at_ k)).c = 19 := by
                  rcases hf S (nxA at_ k) with q | q | q
                  · exact absurd q hc5
                  · exact absurd q hn15
                  · exact q
                have heq1 := heq.trans (exL_go (by omega) hmv_ hni hc19)
                rw [usR_eq hn15] at hbs
                have hMn : RMe bs w95 rows ap cp B ((f S (nxA at_ k)).seen.length : Int) (f S (nxA at_ k)).seen K pl := RMe.less ⟨⟨_, _, _, _, _, hbs, hsa.wide (by omega), hpa.wide (by omega), hsn, hrw.wide (by omega), dsp, hSl, hSn, by omega⟩⟩
                refine wp_skip ?_
                refine n_blk ?_
                refine n_then ?_
                refine rg ?_
                refine st (y_add rfl rfl (by omega)) ?_
                refine st (mvI rfl) ?_
                refine rg_end ?_
                exact n_then ⟨(k + 1, _), _, rfl, same_lk rfl (same_h0), ⟨rfl, trivial⟩, ⟨hlp0, by omega, hMn, heq1⟩, by first | omega | (dsimp only; omega)⟩
      ·
        try simp only [decide_eq_true_eq, decide_eq_false_iff_not, Bool.not_eq_true', Bool.not_eq_false', Bool.and_eq_true, Bool.or_eq_true, Bool.or_eq_false_iff, Bool.cond_true_right, Bool.cond_false_right, Bool.cond_true_left, Bool.cond_false_left, ne_eq, Decidable.not_not, bne_iff_ne, beq_iff_eq, beq_eq_false_iff_ne, Bool.not_true, Bool.not_false] at hc2
        rw [exL_end (by omega)] at heq
        refine wp_exit ?_
        refine e_then (e_then (e_blk (?_)))
        refine n_then ?_
        refine wp_seq ?_
        refine rg ?_
        refine st (asB rfl) ?_
        refine rg_end ?_
        refine n_then ?_
        refine wp_ret ?_
        refine ret1 (v := (.bool _)) Try.results44 rfl ?_
        rw [heq]
        exact ⟨rfl, hM, hE⟩
end Go.Proofs.Yteicgnmggkhlbaa
