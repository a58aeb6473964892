/-
  Walks of the functions, printed by a program out of the code and the loops' relations.
-/
import Derived.Test.YtdgkaahghlbocaaWkF
import Derived.Test.YtdgkaahghlbocaaProg
import Derived.KernelRfl
import Derived.Test.YtdgkaahghlbocaaS5
namespace Go.Proofs.Ytdgkaahghlbocaa
open Go.Wk Go.RowKit
set_option linter.unusedVariables false
set_option linter.unusedSimpArgs false
theorem cl72 : Callable Try.prog 72 := ⟨Try.call72⟩
theorem cl73 : Callable Try.prog 73 := ⟨Try.call73⟩
theorem cl86 : Callable Try.prog 86 := ⟨Try.call86⟩

set_option maxRecDepth 100000 in
theorem cmp_isNaN_ok (x : Int) (w : World) : Cal Try.prog 86 [.int .i64 x] w (fun v w' => v = .bool false ∧ Ext w w') := by
 have hE : Out 0 0 w w := Out.refl _ _ w
 refine enter Try.func86 rfl Try.ntmps86 rfl ?_
 refine wp_seq ?_
 refine rg ?_
 refine st (asB rfl) ?_
 refine rg_end ?_
 refine n_then ?_
 refine wp_seq ?_
 refine rg ?_
 refine st (mvI rfl) ?_
 refine st (mvI rfl) ?_
 refine st (y_neq rfl rfl) ?_
 refine st (asB rfl) ?_
 refine rg_end ?_
 refine n_then ?_
 refine wp_ret ?_
 refine ret1 (v := (.bool _)) Try.results86 rfl ?_
 exact ⟨vb (by simp), hE⟩

set_option maxRecDepth 100000 in
theorem slices_isNaN_ok (x : Int) (w : World) : Cal Try.prog 73 [.int .i64 x] w (fun v w' => v = .bool false ∧ Ext w w') := by
 have hE : Out 0 0 w w := Out.refl _ _ w
 refine enter Try.func73 rfl Try.ntmps73 rfl ?_
 refine wp_seq ?_
 refine rg ?_
 refine st (asB rfl) ?_
 refine rg_end ?_
 refine n_then ?_
 refine wp_seq ?_
 refine rg ?_
 refine st (mvI rfl) ?_
 refine st (mvI rfl) ?_
 refine st (y_neq rfl rfl) ?_
 refine st (asB rfl) ?_
 refine rg_end ?_
 refine n_then ?_
 refine wp_ret ?_
 refine ret1 (v := (.bool _)) Try.results73 rfl ?_
 exact ⟨vb (by simp), hE⟩

set_option maxRecDepth 100000 in
theorem cmp_Less_ok (x y : Int) (w : World) : Cal Try.prog 72 [.int .i64 x, .int .i64 y] w (fun v w' => v = .bool (decide (x < y)) ∧ Ext w w') := by
 have hE : Out 0 0 w w := Out.refl _ _ w
 refine enter Try.func72 rfl Try.ntmps72 rfl ?_
 refine wp_seq ?_
 refine rg ?_
 refine st (asB rfl) ?_
 refine rg_end ?_
 refine n_then ?_
 refine wp_seq ?_
 refine rg ?_
 refine st (mvI rfl) ?_
 refine sc cl86 (cmp_isNaN_ok _ _) rfl ?_
 rintro v5 w1 ⟨rfl, ho2⟩
 have hz6 := ho2.size
 replace hE := hE.step ho2 (.inl (Nat.le_refl _))
 refine st (mvB rfl) ?_
 refine sts rfl rfl rfl ?_
 refine sts rfl rfl rfl ?_
 refine sts rfl rfl rfl ?_
 refine st (y_pickF rfl rfl (v := .bool _) rfl) ?_
 refine st (mvB rfl) ?_
 refine stg rfl rfl rfl (mvI rfl) ?_
 refine stg rfl rfl rfl (mvI rfl) ?_
 refine stg rfl rfl rfl (y_lss rfl rfl) ?_
 refine st (y_pickF rfl rfl (v := .bool _) rfl) ?_
 refine st (asB rfl) ?_
 refine rg_end ?_
 refine n_then ?_
 refine wp_ret ?_
 refine ret1 (v := (.bool _)) Try.results72 rfl ?_
 exact ⟨rfl, hE⟩

set_option maxHeartbeats 1000000 in
set_option maxRecDepth 100000 in
theorem bsearch_ok (l : List Int) (al : Option Addr) (cl ll hl : Nat) (x : Int) (w : World) (hL : Ints ll hl w al l) (hn : l.length ≤ 1048576) (hasc : ∀ i j : Int, 0 ≤ i → i < j → j < l.length → el l i < el l j) : Cal Try.prog 62 [.slice al l.length cl, .int .i64 x] w (fun v w' => ∃ (p : Int) (b : Bool), v = .tuple #[.int .i64 p, .bool b] ∧ (b = true ↔ x ∈ l) ∧ Ext w w') := by
 replace hL := Ints.full hL
 have hE : Out 0 0 w w := Out.refl _ _ w
 refine enter Try.func62 rfl Try.ntmps62 rfl ?_
 refine wp_seq ?_
 refine rg ?_
 refine st (asI rfl) ?_
 refine st (asB rfl) ?_
 refine rg_end ?_
 refine n_then ?_
 refine wp_seq ?_
 refine rg ?_
 refine st (mvS rfl) ?_
 refine st (y_len Try.underlying22 rfl) ?_
 refine st (asI rfl) ?_
 refine rg_end ?_
 refine n_then ?_
 refine wp_seq ?_
 refine rg ?_
 refine st (mvI rfl) ?_
 refine st (asI rfl) ?_
 refine st (asI rfl) ?_
 refine rg_end ?_
 refine n_then ?_
 refine wp_seq ?_
 refine wp_block ?_
 refine lp (γ := Int × Int) [7, 8, 9, 13, 14, 15, 16, 17, 18, 19, 20, 21, 22, 23, 24, 25, 26, 27, 28, 29, 30] (fun ⟨i, j⟩ => [(7, .int .i64 i), (8, .int .i64 j)]) (fun ⟨i, j⟩ w_ => Ext w w_ ∧ 0 ≤ i ∧ i ≤ j ∧ j ≤ l.length ∧ (∀ k : Int, 0 ≤ k → k < i → el l k < x) ∧ (∀ k : Int, j ≤ k → k < l.length → x ≤ el l k)) (fun ⟨i, j⟩ => (j - i).toNat) (0, (l.length : Int)) ⟨rfl, rfl, trivial⟩ ⟨Out.refl _ _ _, by omega, by omega, by omega, (fun k k0 k1 => by omega), (fun k k0 k1 => by omega)⟩ ?_
 rintro ⟨i, j⟩ hav_ w1 ⟨ho2, hi0, hij, hj, hlo, hhi⟩
 have hlp0 := ho2
 have hz3 := ho2.size
 replace hL := hL.ext ho2
 replace hE := hE.step ho2 (.inl (Nat.le_refl _))
 refine wp_seq ?_
 refine wp_seq ?_
 refine rg ?_
 refine st (mvI rfl) ?_
 refine st (mvI rfl) ?_
 refine st (y_lss rfl rfl) ?_
 refine rg_end ?_
 refine n_then ?_
 refine cnd rfl (fun hc0 => ?_) (fun hc0 => ?_)
 ·
  try simp only [nm] at hc0
  refine wp_skip ?_
  refine n_then ?_
  refine wp_block ?_
  refine wp_seq ?_
  refine rg ?_
  refine st (mvI rfl) ?_
  refine st (mvI rfl) ?_
  refine st (y_add rfl rfl (by omega)) ?_
  refine st (y_conv rfl rfl Try.underlying57) ?_
  refine st (y_shr rfl rfl (by omega)) ?_
  refine st (y_conv rfl rfl Try.underlying3) ?_
  rw [half_eq (x := i + j) (by omega) (by omega)]
  refine st (asI rfl) ?_
  refine rg_end ?_
  refine n_then ?_
  refine wp_seq ?_
  refine rg ?_
  refine st (mvS rfl) ?_
  refine st (mvI rfl) ?_
  refine st (y_ix hL sl22 rfl (rfl) rfl (by omega) (by omega)) ?_
  refine st (y_le hL na3 rfl (by omega) (by omega) rfl) ?_
  refine st (mvI rfl) ?_
  refine sc cl72 (cmp_Less_ok _ _ _) rfl ?_
  rintro v8 w4 ⟨rfl, ho5⟩
  have hz9 := ho5.size
  replace hL := hL.ext ho5
  replace hE := hE.step ho5 (.inl (Nat.le_refl _))
  replace hlp0 := hlp0.step ho5 (.inl (Nat.le_refl _))
  refine rg_end ?_
  refine n_then ?_
  refine cnd rfl (fun hc1 => ?_) (fun hc1 => ?_)
  ·
   try simp only [nm] at hc1
   have hlo1 : ∀ k : Int, 0 ≤ k → k < (i + j) / 2 + 1 → el l k < x := fun k k0 k1 => by
     by_cases e : k = (i + j) / 2
     · rw [e]; exact hc1
     · have := hasc k ((i + j) / 2) k0 (by omega) (by omega); omega
   refine rg ?_
   refine st (mvI rfl) ?_
   refine st (y_add rfl rfl (by omega)) ?_
   refine st (asI rfl) ?_
   refine rg_end ?_
   refine n_blk ?_
   exact n_then ⟨(_, _), _, rfl, same_lk rfl (same_h0), ⟨rfl, rfl, trivial⟩, ⟨hlp0, by omega, by omega, by omega, by first | exact hlo1 | exact hlo, by first | exact hhi1 | exact hhi⟩, by first | omega | (dsimp only; omega)⟩
  ·
   try simp only [nm] at hc1
   have hhi1 : ∀ k : Int, (i + j) / 2 ≤ k → k < l.length → x ≤ el l k := fun k k0 k1 => by
     by_cases e : k = (i + j) / 2
     · rw [e]; omega
     · have := hasc ((i + j) / 2) k (by omega) (by omega) k1; omega
   refine rg ?_
   refine st (mvI rfl) ?_
   refine st (asI rfl) ?_
   refine rg_end ?_
   refine n_blk ?_
   exact n_then ⟨(_, _), _, rfl, same_lk rfl (same_h0), ⟨rfl, rfl, trivial⟩, ⟨hlp0, by omega, by omega, by omega, by first | exact hlo1 | exact hlo, by first | exact hhi1 | exact hhi⟩, by first | omega | (dsimp only; omega)⟩
 ·
  try simp only [nm] at hc0
  have hij_ : i = j := by omega
  subst hij_
  have hin : x ∈ l → i < l.length ∧ el l i = x := fun h => by
    obtain ⟨q, hq, e⟩ := List.getElem_of_mem h
    have e2 : el l (q : Int) = x := by simp [el, hq, e]
    have h1 : i ≤ q := by
      by_cases c : (q : Int) < i
      · have := hlo q (by omega) c; omega
      · omega
    have h2 := hhi i (Int.le_refl _) (by omega)
    by_cases c : i = q
    · rw [c]; exact ⟨by omega, e2⟩
    · have := hasc i q (by omega) (by omega) (by omega); omega
  refine wp_exit ?_
  refine e_then (e_then (e_blk (?_)))
  refine n_then ?_
  refine wp_seq ?_
  refine rg ?_
  refine st (mvI rfl) ?_
  refine st (mvI rfl) ?_
  refine st (mvI rfl) ?_
  refine st (y_lss rfl rfl) ?_
  refine st (mvB rfl) ?_
  refine gspL 35 rfl (fun hg10 => ?_) (fun hg10 => ?_)
  ·
   have hg10n := hg10; try simp only [nm] at hg10n
   refine stg rfl rfl hg10 (mvS rfl) ?_
   refine stg rfl rfl hg10 (mvI rfl) ?_
   refine stg rfl rfl hg10 (y_ix hL sl22 rfl (rfl) rfl (by omega) (by omega)) ?_
   refine stg rfl rfl hg10 (y_le hL na3 rfl (by omega) (by omega) rfl) ?_
   refine stg rfl rfl hg10 (mvI rfl) ?_
   refine stg rfl rfl hg10 (y_eql rfl rfl) ?_
   refine stg rfl rfl hg10 (mvB rfl) ?_
   refine gspL 42 rfl (fun hg11 => ?_) (fun hg11 => ?_)
   ·
    have hg11n := hg11; try simp only [nm] at hg11n
    refine sts rfl rfl hg11 ?_
    refine sts rfl rfl hg11 ?_
    refine sts rfl rfl hg11 ?_
    refine sts rfl rfl hg11 ?_
    refine sts rfl rfl hg11 ?_
    refine sts rfl rfl hg11 ?_
    refine stu rfl rfl ?_
    refine stu rfl rfl ?_
    refine sts rfl rfl hg11 ?_
    refine stg rfl rfl hg10 (y_pickT rfl hg11 (v := .bool _) rfl) ?_
    refine st (y_pickT rfl hg10 (v := .bool _) rfl) ?_
    refine st (asI rfl) ?_
    refine st (asB rfl) ?_
    refine rg_end ?_
    refine n_then ?_
    refine wp_ret ?_
    refine ret2 (v := (.int .i64 _)) (v' := (.bool _)) Try.results62 rfl rfl ?_
    refine ⟨_, _, rfl, ?_, hE⟩
    first
    | (refine ⟨fun _ => ?_, fun h => ?_⟩
       · have e : el l i = x := by simp_all
         rw [← e]; exact el_mem (by omega) (by omega)
       · have := hin h
         simp_all)
    | (refine ⟨fun h => (by cases h), fun h => ?_⟩
       have := hin h
       omega)
   ·
    have hg11n := hg11; try simp only [nm] at hg11n
    refine stg rfl rfl hg11 (mvS rfl) ?_
    refine stg rfl rfl hg11 (mvI rfl) ?_
    refine stg rfl rfl hg11 (y_ix hL sl22 rfl (rfl) rfl (by omega) (by omega)) ?_
    refine stg rfl rfl hg11 (y_le hL na3 rfl (by omega) (by omega) rfl) ?_
    refine scg rfl rfl hg11 cl73 (slices_isNaN_ok _ _) rfl ?_
    rintro v16 w12 ⟨rfl, ho13⟩
    have hz17 := ho13.size
    replace hL := hL.ext ho13
    replace hE := hE.step ho13 (.inl (Nat.le_refl _))
    refine stg rfl rfl hg11 (mvB rfl) ?_
    refine sts rfl rfl rfl ?_
    refine sts rfl rfl rfl ?_
    refine stg rfl rfl hg11 (y_pickF rfl rfl (v := .bool _) rfl) ?_
    refine stg rfl rfl hg10 (y_pickF rfl hg11 (v := .bool _) rfl) ?_
    refine st (y_pickT rfl hg10 (v := .bool _) rfl) ?_
    refine st (asI rfl) ?_
    refine st (asB rfl) ?_
    refine rg_end ?_
    refine n_then ?_
    refine wp_ret ?_
    refine ret2 (v := (.int .i64 _)) (v' := (.bool _)) Try.results62 rfl rfl ?_
    refine ⟨_, _, rfl, ?_, hE⟩
    first
    | (refine ⟨fun _ => ?_, fun h => ?_⟩
       · have e : el l i = x := by simp_all
         rw [← e]; exact el_mem (by omega) (by omega)
       · have := hin h
         simp_all)
    | (refine ⟨fun h => (by cases h), fun h => ?_⟩
       have := hin h
       omega)
  ·
   have hg10n := hg10; try simp only [nm] at hg10n
   refine sts rfl rfl hg10 ?_
   refine sts rfl rfl hg10 ?_
   refine sts rfl rfl hg10 ?_
   refine sts rfl rfl hg10 ?_
   refine sts rfl rfl hg10 ?_
   refine sts rfl rfl hg10 ?_
   refine sts rfl rfl hg10 ?_
   refine stu rfl rfl ?_
   refine stu rfl rfl ?_
   refine stu rfl rfl ?_
   refine stu rfl rfl ?_
   refine stu rfl rfl ?_
   refine stu rfl rfl ?_
   refine stu rfl rfl ?_
   refine stu rfl rfl ?_
   refine stu rfl rfl ?_
   refine sts rfl rfl hg10 ?_
   refine st (y_pickF rfl hg10 (v := .bool _) rfl) ?_
   refine st (asI rfl) ?_
   refine st (asB rfl) ?_
   refine rg_end ?_
   refine n_then ?_
   refine wp_ret ?_
   refine ret2 (v := (.int .i64 _)) (v' := (.bool _)) Try.results62 rfl rfl ?_
   refine ⟨_, _, rfl, ?_, hE⟩
   first
   | (refine ⟨fun _ => ?_, fun h => ?_⟩
      · have e : el l i = x := by simp_all
        rw [← e]; exact el_mem (by omega) (by omega)
      · have := hin h
        simp_all)
   | (refine ⟨fun h => (by cases h), fun h => ?_⟩
      have := hin h
      omega)
end Go.Proofs.Ytdgkaahghlbocaa
