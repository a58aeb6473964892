/-
  slices.Sort at []int: the shelf's contract, laid at this program.
-/
import Derived.Shelf.Lay
import Derived.Shelf.Sort.Plain
import Derived.Shelf.Slices.In.SortNone
import Derived.Ground.NamesProg
import Derived.Test.YtdgkaahghlbocaaProg
import Derived.Test.YtdgkaahghlbocaaWkG
import Derived.Test.YtdgkaahghlbocaaBase
namespace Go.Proofs
open Go.Shelf
shelf_lay Lays.n189 Nm 189 at Try as Try.laysSort
end Go.Proofs
