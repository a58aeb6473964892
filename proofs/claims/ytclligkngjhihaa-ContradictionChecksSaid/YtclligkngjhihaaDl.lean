/-
  slices.Delete at []int: the shelf's contract, laid at this program, as a contract of this repo's kind.
-/
import Derived.Shelf.Lay
import Derived.Shelf.Slices.Delete
import Derived.Ground.Names2Prog
import Derived.Test.YtclligkngjhihaaProg
import Derived.Test.YtclligkngjhihaaWkG
import Derived.Test.YtclligkngjhihaaBase
namespace Go.Proofs
open Go.Shelf
shelf_lay Lays2.n23 Nm2 23 at Try as Try.laysDel
end Go.Proofs
