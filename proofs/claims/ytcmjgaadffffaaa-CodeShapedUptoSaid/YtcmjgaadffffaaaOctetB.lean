/-
  Walks of package octet, and of the document's: And, Or, Not, Has, With.
-/
import Derived.Test.YtcmjgaadffffaaaOctetA
import Derived.Test.YtcmjgaadffffaaaEqS
namespace Go.Proofs.Ytcmjgaadffffaaa
open Go.RowKit

/-- Word by word, the first k of them. -/
def S4.mix (f : Int → Int → Int) (k : Nat) (s t : S4) : S4 :=
  ⟨if 0 < k then f s.a t.a else s.a, if 1 < k then f s.b t.b else s.b, if 2 < k then f s.c t.c else s.c, if 3 < k then f s.d t.d else s.d⟩
def S4.and (s t : S4) : S4 := ⟨bits .and .u64 s.a t.a, bits .and .u64 s.b t.b, bits .and .u64 s.c t.c, bits .and .u64 s.d t.d⟩
def S4.or (s t : S4) : S4 := ⟨bits .or .u64 s.a t.a, bits .or .u64 s.b t.b, bits .or .u64 s.c t.c, bits .or .u64 s.d t.d⟩

theorem ret_set {w w' : World} {s : S4} {e : Ending} (h : e = .returned (.agg s.cells.toArray)) (f : Fr nob w w') : e = .returned (.agg s.cells.toArray) ∧ Fr nob w w' := ⟨h, f⟩

abbrev setFour (w : World) (b : Nat) (v0 v1 v2 v3 : Value) : World := (((w.setCell ⟨b, 0, none⟩ v0).setCell ⟨b, 1, none⟩ v1).setCell ⟨b, 2, none⟩ v2).setCell ⟨b, 3, none⟩ v3
theorem setFour_heap {w : World} {b : Nat} {a0 a1 a2 a3 : Value} {T : TypeId} {fr : Nat × Nat} (h : w.heap[b]? = some (.cells #[a0, a1, a2, a3] T fr)) (v0 v1 v2 v3 : Value) :
    (setFour w b v0 v1 v2 v3).heap[b]? = some (.cells #[v0, v1, v2, v3] T fr) := by
  have h0 : (w.setCell ⟨b, 0, none⟩ v0).heap[b]? = some (.cells #[v0, a1, a2, a3] T fr) := heap_setCell_at h 0 v0
  have h1 : ((w.setCell ⟨b, 0, none⟩ v0).setCell ⟨b, 1, none⟩ v1).heap[b]? = some (.cells #[v0, v1, a2, a3] T fr) := heap_setCell_at h0 1 v1
  have h2 : (((w.setCell ⟨b, 0, none⟩ v0).setCell ⟨b, 1, none⟩ v1).setCell ⟨b, 2, none⟩ v2).heap[b]? = some (.cells #[v0, v1, v2, a3] T fr) := heap_setCell_at h1 2 v2
  exact heap_setCell_at h2 3 v3
theorem setFour_fr {w a : World} {b : Nat} (f : Fr nob a w) (hb : a.heap.size ≤ b) (v0 v1 v2 v3 : Value) : Fr nob a (setFour w b v0 v1 v2 v3) := by
  have h : ∀ (x : World) (j : Nat) (v : Value), Fr nob a x → Fr nob a (x.setCell ⟨b, j, none⟩ v) := fun x j v hx => hx.setCell (p := ⟨b, j, none⟩) (fun h => absurd h (Nat.not_lt.2 hb)) v
  exact h _ _ _ (h _ _ _ (h _ _ _ (h _ _ _ f)))

/-- Three variables: two sets, and a result. -/
abbrev box3 (w : World) (s t : S4) (T : TypeId) : World := ((w.alloc (.cells s.cells.toArray T)).alloc (.cells t.cells.toArray T)).alloc (.cells S4.zero.cells.toArray T)
theorem box3_fr (w : World) (s t : S4) (T : TypeId) : Fr nob w (box3 w s t T) := (((Fr.refl _ _).alloc _).alloc _).alloc _
theorem box3_a (w : World) (s t : S4) (T : TypeId) : (box3 w s t T).heap[w.heap.size]? = some (.cells s.cells.toArray T (0, 0)) := heap_alloc_lt _ (heap_alloc_lt _ (heap_alloc_new _ _))
theorem box3_b (w : World) (s t : S4) (T : TypeId) : (box3 w s t T).heap[w.heap.size + 1]? = some (.cells t.cells.toArray T (0, 0)) := by
  refine heap_alloc_lt _ ?_
  have := heap_alloc_new (w.alloc (.cells s.cells.toArray T)) (.cells t.cells.toArray T); simpa using this
theorem box3_c (w : World) (s t : S4) (T : TypeId) : (box3 w s t T).heap[w.heap.size + 2]? = some (.cells S4.zero.cells.toArray T (0, 0)) := by
  have := heap_alloc_new ((w.alloc (.cells s.cells.toArray T)).alloc (.cells t.cells.toArray T)) (.cells S4.zero.cells.toArray T); simpa using this
theorem box3_size (w : World) (s t : S4) (T : TypeId) : (box3 w s t T).heap.size = w.heap.size + 3 := by simp

end Go.Proofs.Ytcmjgaadffffaaa
