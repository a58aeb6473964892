/-
  Walks of the functions, printed by a program out of the code and the loops' relations.
-/
import Derived.Test.YtciljdhihnnfiaaWkD
import Derived.Test.YtciljdhihnnfiaaProg
import Derived.KernelRfl
import Derived.Test.YtciljdhihnnfiaaBase
import Derived.Test.YtciljdhihnnfiaaA1
import Derived.Test.YtciljdhihnnfiaaA2
namespace Go.Proofs.Ytciljdhihnnfiaa
open Go.Wk Go.RowKit
set_option linter.unusedVariables false
set_option linter.unusedSimpArgs false

end Go.Proofs.Ytciljdhihnnfiaa
