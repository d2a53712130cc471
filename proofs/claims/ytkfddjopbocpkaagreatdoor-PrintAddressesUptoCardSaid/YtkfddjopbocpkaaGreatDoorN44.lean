/- Lemmas of this claim. -/
import Derived.Test.YtkfddjopbocpkaaGreatDoorN40
set_option linter.unusedVariables false
set_option linter.unusedSimpArgs false
set_option maxRecDepth 100000
set_option maxHeartbeats 4000000
namespace Go.Proofs.YtkfddjopbocpkaaGreatDoor
open Go.RowKit
abbrev zS2:Array Value:= #[.bool false,.slice none 0 0]
attribute [-go_sem] storeVar
end Go.Proofs.YtkfddjopbocpkaaGreatDoor
