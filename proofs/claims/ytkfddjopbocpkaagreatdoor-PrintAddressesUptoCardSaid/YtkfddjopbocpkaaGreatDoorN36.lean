/- Lemmas of this claim. -/
import Derived.Test.YtkfddjopbocpkaaGreatDoorN32
import Derived.Test.YtkfddjopbocpkaaGreatDoorN35
set_option linter.unusedVariables false
set_option linter.unusedSimpArgs false
set_option maxRecDepth 100000
set_option maxHeartbeats 4000000
namespace Go.Proofs.YtkfddjopbocpkaaGreatDoor
open Go.RowKit
attribute [-go_sem] storeVar loadVar
end Go.Proofs.YtkfddjopbocpkaaGreatDoor
