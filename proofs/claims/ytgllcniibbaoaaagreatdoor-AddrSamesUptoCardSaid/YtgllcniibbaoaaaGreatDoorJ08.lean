/- Lemmas of this claim. -/
import Derived.Laws.OwnMore
import Derived.Test.YtgllcniibbaoaaaGreatDoorJ04
import Derived.Test.YtgllcniibbaoaaaGreatDoorJ06
set_option linter.all false
set_option maxRecDepth 100000
set_option maxHeartbeats 24000000
namespace Go.Proofs.YtgllcniibbaoaaaGreatDoor
open Go.RowKit
abbrev ZcR(s:S4):Value:=.agg #[.int .u64 s.a,.int .u64 s.b,.int .u64 s.c,.int .u64 s.d]
end Go.Proofs.YtgllcniibbaoaaaGreatDoor
