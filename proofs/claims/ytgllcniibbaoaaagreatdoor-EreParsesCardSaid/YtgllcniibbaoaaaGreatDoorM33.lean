/- Lemmas of this claim. -/
import Derived.WalkMore
import Derived.Test.YtgllcniibbaoaaaGreatDoorM02
import Derived.Test.YtgllcniibbaoaaaGreatDoorM05
set_option linter.all false
set_option maxRecDepth 100000
set_option maxHeartbeats 4000000
namespace Go.Proofs.YtgllcniibbaoaaaGreatDoor
open Go.RowKit
end Go.Proofs.YtgllcniibbaoaaaGreatDoor
