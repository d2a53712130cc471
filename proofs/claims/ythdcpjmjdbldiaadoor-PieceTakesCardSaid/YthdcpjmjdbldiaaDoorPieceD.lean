/-
  Walk of the document's Between: it answers what 'bt' says.
-/
import Derived.Test.YthdcpjmjdbldiaaDoorPieceC
namespace Go.Proofs.YthdcpjmjdbldiaaDoor
open Go.RowKit

theorem len1 {o : List UInt8} {k : Nat} {a : UInt8} (h : o.length ≤ k) : (o ++ [a]).length ≤ k + 1 := by simp; omega
theorem len1' {o : List UInt8} {k : Nat} {a : UInt8} (h : o.length ≤ k) : (o ++ [a]).length ≤ k + 2 := by simp; omega
theorem len2 {o : List UInt8} {k : Nat} {a b : UInt8} (h : o.length ≤ k) : (o ++ [a, b]).length ≤ k + 2 := by simp; omega
theorem str_app {o : List UInt8} {a b : UInt8} : Value.string ⟨(o ++ [a] ++ [b]).toArray⟩ = Value.string ⟨(o ++ [a, b]).toArray⟩ := by simp
theorem bt_one {l : List UInt8} {d : UInt8} {rx : Bool} {n k : Nat} {out : List UInt8} (h : k < l.length) (e : l[k] ≠ d) (e2 : l[k] ≠ 92) (e3 : ¬ (l[k] = 91 ∧ rx = true)) (e4 : l[k] ≠ 10) :
    bt l d rx (n + 1) k out = bt l d rx n (k + 1) (out ++ [l[k]]) := by
  rw [bt_copy h e e2 (if_neg e3), take_one h]
  have hx : (l[k] == 10) = false := by simpa using e4
  rw [if_pos (by simp [Lib.indexByte, hx])]
theorem bt_nl {l : List UInt8} {d : UInt8} {rx : Bool} {n k : Nat} {out : List UInt8} (h : k < l.length) (e : l[k] ≠ d) (e4 : l[k] = 10) :
    bt l d rx (n + 1) k out = ([], k, 2) := by
  rw [bt_copy h e (by rw [e4]; decide) (if_neg (by rw [e4]; simp)), take_one h, e4]
  simp [Lib.indexByte]

/-- The loop's relation. -/
def RbRel (l : List UInt8) (d : UInt8) (rx : Bool) (F : List UInt8 × Nat × Int) (n : Nat) (at_ out : Value) : Prop :=
  ∃ (k : Nat) (o : List UInt8), l.length < n + k ∧ k ≤ l.length ∧ o.length ≤ k ∧ at_ = .int .i64 k ∧ out = .string ⟨o.toArray⟩ ∧ bt l d rx n k o = F

end Go.Proofs.YthdcpjmjdbldiaaDoor
