/-
  Walks over the document's nodes: Size, Deep, Groups, Backs: as of the program's node.
-/
import Derived.Test.YtcmjgaadffffaaaRefC
import Derived.Test.YtcmjgaadffffaaaTreeI
namespace Go.Proofs.Ytcmjgaadffffaaa
open Go.RowKit

theorem T.kids_take (t : T) (k : Nat) : t.nd.kids.take k = (t.kids.take k).map T.nd := by rw [t.kids_nd, List.map_take]
theorem T.kid_at (t : T) {k : Nat} (h : k < t.kids.length) (h' : k < t.nd.kids.length) : t.nd.kids[k] = t.kids[k].nd := by
  have : t.nd.kids[k]? = (t.kids[k]?).map T.nd := by rw [t.kids_nd, List.getElem?_map]
  rw [List.getElem?_eq_getElem h', List.getElem?_eq_getElem h] at this
  simpa using this
theorem T.kids_len (t : T) : t.nd.kids.length = t.kids.length := by rw [t.kids_nd, List.length_map]
theorem T.isGroup_iff (kd : Int) (s : S4) (ps : List T) (mn mx nu : Int) : (T.mk kd s ps mn mx nu).nd.isGroup = decide (kd = 5) := by
  simp only [T.nd]
  by_cases a1 : kd = 1
  · simp [a1, Nd.isGroup]
  by_cases a2 : kd = 2
  · simp [a2, Nd.isGroup]
  by_cases a3 : kd = 3
  · simp [a3, Nd.isGroup]
  by_cases a4 : kd = 4
  · simp [a4, Nd.isGroup]
  by_cases a5 : kd = 5
  · simp [a5, Nd.isGroup]
  by_cases a6 : kd = 6
  · simp [a6, Nd.isGroup]
  by_cases a7 : kd = 7
  · simp [a7, Nd.isGroup]
  by_cases a8 : kd = 8
  · simp [a8, Nd.isGroup]
  simp [a1, a2, a3, a4, a5, a6, a7, a8, Nd.isGroup]
theorem T.isBack_iff (kd : Int) (s : S4) (ps : List T) (mn mx nu : Int) : (T.mk kd s ps mn mx nu).nd.isBack = decide (kd = 6) := by
  simp only [T.nd]
  by_cases a1 : kd = 1
  · simp [a1, Nd.isBack]
  by_cases a2 : kd = 2
  · simp [a2, Nd.isBack]
  by_cases a3 : kd = 3
  · simp [a3, Nd.isBack]
  by_cases a4 : kd = 4
  · simp [a4, Nd.isBack]
  by_cases a5 : kd = 5
  · simp [a5, Nd.isBack]
  by_cases a6 : kd = 6
  · simp [a6, Nd.isBack]
  by_cases a7 : kd = 7
  · simp [a7, Nd.isBack]
  by_cases a8 : kd = 8
  · simp [a8, Nd.isBack]
  simp [a1, a2, a3, a4, a5, a6, a7, a8, Nd.isBack]

end Go.Proofs.Ytcmjgaadffffaaa
