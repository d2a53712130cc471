/-
  Walks: Wide of both sides.
-/
import Derived.Test.YtmoiiidfhkfdgaaDoorBldRune
namespace Go.Proofs.YtmoiiidfhkfdgaaDoor
open Go.RowKit

end Go.Proofs.YtmoiiidfhkfdgaaDoor
