/-
  Walks: the fixed fact of chapter 1.
-/
import Derived.Test.YtmoiiidfhkfdgaaDoorOctetK
import Derived.Test.YtmoiiidfhkfdgaaDoorOctetW
import Derived.Test.YtmoiiidfhkfdgaaDoorSetLaw
namespace Go.Proofs.YtmoiiidfhkfdgaaDoor
open Go.RowKit

theorem class_lit (s : ByteArray) (o : Option (Int → Bool)) (ho : clsOf s = o) (w : World) : Calls Tryd.prog 39 #[.string s] w fun e w' => e = .returned (.tuple #[setV (clsSet o), .bool o.isSome]) ∧ Fr nob w w' := by
  subst ho; exact octClass_any s w
theorem len_lit (s : S4) (w : World) (hs : s.fit) : Calls Tryd.prog 15 #[setV s] w fun e w' => e = .returned (.int .i64 s.len) ∧ Fr nob w w' := len_any s w hs
theorem has_lit (s : S4) (d : Nat) (w : World) (hs : s.fit) (hd : d < 256) : Calls Tryd.prog 16 #[setV s, .int .u8 d] w fun e w' => e = .returned (.bool (s.has d)) ∧ Fr nob w w' := has_any s d w hs hd
theorem of_lit (l : List UInt8) (u : Value) (w : World) (hl : l.length ≤ 9000000000000000000) (h : SB w l u) : Calls Tryd.prog 34 #[u] w fun e w' => e = .returned (setV (S4.zero.puts l)) ∧ Fr nob w w' := of_any l u w hl h
theorem SB_new1 (w : World) (c : UInt8) (T : TypeId) : SB (w.alloc (.cells #[.int .u8 (c.toNat : Int)] T)) [c] (.slice (some ⟨w.heap.size, 0, none⟩) 1 1) := by
  refine Or.inr ⟨_, _, _, rfl, by simp, ?_⟩
  intro j x hj
  match j, hj with
  | 0, hj => simp at hj; subst hj; simp [World.cell?_alloc_new]
theorem clsOf_punct : clsOf ⟨#[112, 117, 110, 99, 116]⟩ = some isPunct := by simp [clsOf]
theorem len_punct : (clsSet (some isPunct)).len = 32 := by decide +kernel
theorem wide_e9 : wide [233] = [195, 169] := by decide +kernel
theorem has_97 : (S4.zero.puts [97]).has 97 = true := by decide +kernel
theorem has_98 : (S4.zero.puts [97]).has 98 = false := by decide +kernel

end Go.Proofs.YtmoiiidfhkfdgaaDoor
