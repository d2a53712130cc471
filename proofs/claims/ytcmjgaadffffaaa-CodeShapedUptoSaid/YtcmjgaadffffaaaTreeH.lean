/-
  Walk of the statements' fixed fact: awake is true.
-/
import Derived.Test.YtcmjgaadffffaaaTreeG
namespace Go.Proofs.Ytcmjgaadffffaaa
open Go.RowKit

theorem At.new {b : Nat} (w : World) (cs : Array Value) (T : TypeId) (hb : b = w.heap.size) : At (w.alloc (.cells cs T)) b 0 cs.toList := by
  subst hb
  intro j v hj
  exact cell_at (heap_alloc_new w _) (by simpa using hj)

end Go.Proofs.Ytcmjgaadffffaaa
