/-
  Walks: Len of the document; Span of both sides.
-/
import Derived.Test.YtmoiiidfhkfdgaaDoorCount
namespace Go.Proofs.YtmoiiidfhkfdgaaDoor
open Go.RowKit

theorem C4s {w : World} {b : Nat} {s : S4} {T : TypeId} (h : w.heap[b]? = some (.cells s.cells.toArray T (0, 0))) (w' : World) (f : Fr nob w w') :
    w'.cell? ⟨b, 0, none⟩ = some (.int .u64 s.a) ∧ w'.cell? ⟨b, 1, none⟩ = some (.int .u64 s.b) ∧ w'.cell? ⟨b, 2, none⟩ = some (.int .u64 s.c) ∧ w'.cell? ⟨b, 3, none⟩ = some (.int .u64 s.d) := by
  obtain ⟨c0, c1, c2, c3, _⟩ := cellS (f.heap h (fun x => x))
  exact ⟨c0, c1, c2, c3⟩

end Go.Proofs.YtmoiiidfhkfdgaaDoor
