/-
  Walks of the functions, printed by a program out of the code and the loops' relations.
-/
import Derived.Test.YtclligkngjhihaaWkD
import Derived.Test.YtclligkngjhihaaProg
import Derived.KernelRfl
namespace Go.Proofs.Ytclligkngjhihaa
open Go.Wk Go.RowKit
set_option linter.unusedVariables false
set_option linter.unusedSimpArgs false
theorem tmod_fix (a b : Int) (hb : 1 ≤ b) : (if a.tmod b < 0 then a.tmod b + b else a.tmod b) = a % b := by
  have h1 := Int.emod_nonneg a (show b ≠ 0 by omega)
  have h2 := Int.emod_lt_of_pos a (show 0 < b by omega)
  have h3 := Int.tmod_lt_of_pos a (show 0 < b by omega)
  have h4 := Int.lt_tmod_of_pos a (show 0 < b by omega)
  have h5 : a.tmod b % b = a % b := by
    rw [Int.tmod_def, Int.sub_emod, Int.mul_emod_right, Int.sub_zero, Int.emod_emod]
  split
  · rw [← h5, ← Int.add_emod_right, Int.emod_eq_of_lt (by omega) (by omega)]
  · rw [← h5, Int.emod_eq_of_lt (by omega) (by omega)]

set_option maxRecDepth 100000 in
theorem arith_Mod_ok (a b : Int) (w : World) (ha : -9223372036854775808 ≤ a ∧ a ≤ 9223372036854775807) (hb : 1 ≤ b) (hb2 : b ≤ 9223372036854775807) : Cal Try.prog 81 [.int .i64 a, .int .i64 b] w (fun v w' => v = .int .i64 (a % b) ∧ Ext w w') := by
 have hm := tmod_fix a b hb
 have h3 := Int.tmod_lt_of_pos a (show 0 < b by omega)
 have h4 := Int.lt_tmod_of_pos a (show 0 < b by omega)
 have hE : Out 0 0 w w := Out.refl _ _ w
 refine enter Try.func81 rfl Try.ntmps81 rfl ?_
 refine wp_seq ?_
 refine rg ?_
 refine st (asI rfl) ?_
 refine rg_end ?_
 refine n_then ?_
 refine wp_seq ?_
 refine wp_seq ?_
 refine rg ?_
 refine st (mvI rfl) ?_
 refine st (y_lss rfl rfl) ?_
 refine rg_end ?_
 refine n_then ?_
 refine cnd rfl (fun hc0 => ?_) (fun hc0 => ?_)
 ·
  try simp only [nm] at hc0
  exfalso; omega
 ·
  try simp only [nm] at hc0
  refine wp_skip ?_
  refine n_then ?_
  refine wp_seq ?_
  refine rg ?_
  refine st (mvI rfl) ?_
  refine st (mvI rfl) ?_
  refine st (y_rem rfl rfl (by omega)) ?_
  refine st (asI rfl) ?_
  refine rg_end ?_
  refine n_then ?_
  refine wp_seq ?_
  refine wp_seq ?_
  refine rg ?_
  refine st (mvI rfl) ?_
  refine st (y_lss rfl rfl) ?_
  refine rg_end ?_
  refine n_then ?_
  refine cnd rfl (fun hc1 => ?_) (fun hc1 => ?_)
  ·
   try simp only [nm] at hc1
   rw [if_pos hc1] at hm
   refine rg ?_
   refine st (mvI rfl) ?_
   refine st (mvI rfl) ?_
   refine st (y_add rfl rfl (by omega)) ?_
   refine st (asI rfl) ?_
   refine rg_end ?_
   refine n_then ?_
   refine wp_seq ?_
   refine rg ?_
   refine st (mvI rfl) ?_
   refine st (asI rfl) ?_
   refine rg_end ?_
   refine n_then ?_
   refine wp_ret ?_
   refine ret1 (v := (.int .i64 _)) Try.results81 rfl ?_
   exact ⟨by rw [← hm], hE⟩
  ·
   try simp only [nm] at hc1
   rw [if_neg (by omega)] at hm
   refine wp_skip ?_
   refine n_then ?_
   refine wp_seq ?_
   refine rg ?_
   refine st (mvI rfl) ?_
   refine st (asI rfl) ?_
   refine rg_end ?_
   refine n_then ?_
   refine wp_ret ?_
   refine ret1 (v := (.int .i64 _)) Try.results81 rfl ?_
   exact ⟨by rw [← hm], hE⟩
end Go.Proofs.Ytclligkngjhihaa
