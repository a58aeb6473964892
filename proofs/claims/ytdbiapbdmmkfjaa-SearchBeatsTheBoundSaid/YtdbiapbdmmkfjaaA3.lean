/-
  Walks of the functions, printed by a program out of the code and the loops' relations.
-/
import Derived.Test.YtdbiapbdmmkfjaaWkD
import Derived.Test.YtdbiapbdmmkfjaaProg
import Derived.KernelRfl
import Derived.Test.YtdbiapbdmmkfjaaBase
import Derived.Test.YtdbiapbdmmkfjaaA1
import Derived.Test.YtdbiapbdmmkfjaaA2
namespace Go.Proofs.Ytdbiapbdmmkfjaa
open Go.Wk Go.RowKit
set_option linter.unusedVariables false
set_option linter.unusedSimpArgs false

end Go.Proofs.Ytdbiapbdmmkfjaa
