/-
  Walks of the functions, printed by a program out of the code and the loops' relations.
-/
import Derived.Test.YteicgnmggkhlbaaWkD
import Derived.Test.YteicgnmggkhlbaaProg
import Derived.KernelRfl
namespace Go.Proofs.Yteicgnmggkhlbaa
open Go.Wk Go.RowKit
set_option linter.unusedVariables false
set_option linter.unusedSimpArgs false
theorem tmod_fix (a b : Int) (hb : 1 ≤ b) : (if a.tmod b < 0 then a.tmod b + b else a.tmod b) = a % b := by
  have h1 := Int.emod_nonneg a (show b ≠ 0 by omega)
  have h2 := Int.emod_lt_of_pos a (show 0 < b by omega)
  have h3 := Int.tmod_lt_of_pos a (show 0 < b by omega)
  have h4 := Int.lt_tmod_of_pos a (show 0 < b by omega)
  have h5 : a.tmod b % b = a % b := by
    rw [Int.tmod_def, Int.sub_emod, Int.mul_emod_right, Int.sub_zero, Int.emod_emod]
  split
  · rw [← h5, ← Int.add_emod_right, Int.emod_eq_of_lt (by omega) (by omega)]
  · rw [← h5, Int.emod_eq_of_lt (by omega) (by omega)]
end Go.Proofs.Yteicgnmggkhlbaa
