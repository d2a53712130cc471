/-
  utf8.AppendRune and (*strings.Builder).WriteRune at a sign below 256.
-/
import Derived.Test.YtmoiiidfhkfdgaaDoorBld
import Derived.Test.YtmoiiidfhkfdgaaDoorNarrow
namespace Go.Proofs.YtmoiiidfhkfdgaaDoor
open Go.RowKit

end Go.Proofs.YtmoiiidfhkfdgaaDoor
