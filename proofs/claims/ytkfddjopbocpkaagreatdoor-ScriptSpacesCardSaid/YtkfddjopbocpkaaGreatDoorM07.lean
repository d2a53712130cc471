/- Lemmas of this claim. -/
import Derived.Laws.OwnMore
import Derived.Test.YtkfddjopbocpkaaGreatDoorM03
import Derived.Test.YtkfddjopbocpkaaGreatDoorM05
set_option linter.unusedVariables false
set_option linter.unusedSimpArgs false
set_option maxRecDepth 100000
set_option maxHeartbeats 4000000
namespace Go.Proofs.YtkfddjopbocpkaaGreatDoor
open Go.RowKit
abbrev ZcR(s:S4):Value:=.agg #[.int .u64 s.a,.int .u64 s.b,.int .u64 s.c,.int .u64 s.d]
end Go.Proofs.YtkfddjopbocpkaaGreatDoor
