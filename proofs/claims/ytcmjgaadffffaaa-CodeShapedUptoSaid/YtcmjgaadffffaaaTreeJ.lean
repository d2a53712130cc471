/-
  Walks of package tree: head, Same; Deep, Groups, Backs; Holds.
-/
import Derived.Test.YtcmjgaadffffaaaTreeI
import Derived.Test.YtcmjgaadffffaaaEqS
namespace Go.Proofs.Ytcmjgaadffffaaa
open Go.RowKit

theorem RN.miss {S : Nat → Prop} {w : World} {n : Nd} {v : Value} {i0 : TypeId} (h : RN S w n v) (hn : n.ty ≠ some i0) : v = .nilIface ∨ ∃ i x, v = .iface i x ∧ i ≠ i0 := by
  rcases h.tyv with ⟨_, rfl⟩ | ⟨i, x, ht, rfl⟩
  · exact .inl rfl
  · exact .inr ⟨i, x, rfl, fun e => hn (by rw [ht, e])⟩

theorem told_head (a b : Nd) : a.told.head b = a.head b := by cases a <;> cases b <;> rfl

end Go.Proofs.Ytcmjgaadffffaaa
