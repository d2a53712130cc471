/-
  Merged texts of this claim: TreeL.
-/
import Derived.Outline
import Derived.Defers
import Derived.Recover
import Derived.Laws.Pointers
import Derived.Test.YtmoeboknelnaoaaGreatDoorM13
import Derived.Test.YtmoeboknelnaoaaGreatDoorM18

/-
  Walks: SetOf (it returns, or it panics), caught: its panic is recovered.
-/
namespace Go.Proofs.YtmoeboknelnaoaaGreatDoor
open Go.RowKit

theorem run_assert_ok {P : Program} {x a : TypeId} {fs : Array Field} (h : P.underlying a = some (.struct fs)) (v : Value) (w : World) :
    (Instr.typeAssert (.iface a v) x a false).run P w = .ok v w := by
  simp [Instr.typeAssert, run_underlying h]
theorem as_ok_One (v : Value) (w : World) : (Instr.typeAssert (.iface 93 v) 25 93 false).run Tryz.prog w = .ok v w := run_assert_ok Tryz.underlying93 v w
attribute [go_sem] as_ok_One

theorem makeFunc_run (fn : Fn) (first cap : Array Value) (w : World) : (Instr.makeFunc fn first cap).run Tryz.prog w = .ok (.func fn first cap) w := rfl

end Go.Proofs.YtmoeboknelnaoaaGreatDoor
