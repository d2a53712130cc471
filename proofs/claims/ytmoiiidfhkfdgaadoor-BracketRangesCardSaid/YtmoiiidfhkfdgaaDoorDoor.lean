/-
  The table of math/bits out of a row's condition; a world in which it lies.
-/
import Derived.Test.YtmoiiidfhkfdgaaDoorLeast
import Derived.Test.YtmoiiidfhkfdgaaDoorRows
import Derived.ProofKit
import Derived.LaidMore
import Derived.OpenShut
import Derived.Stop.Joined
import Derived.Lib.LaidTab
namespace Go.Proofs.YtmoiiidfhkfdgaaDoor
open Go.ChangeShapes Go.WideShapes Go.ChangeAt Go.RowKit

namespace door
theorem own : ownKnob Tryd.prog.godebug = none := by kernel_rfl
theorem laidOut : laidOutB Tryd.prog = true := by kernel_rfl
theorem gTab : Tryd.prog.globalNamed "math/bits.deBruijn64tab" = some 0 := by kernel_rfl
theorem tTab : (Tryd.prog.globals[0]?).map (·.type) = some 80 := by kernel_rfl
abbrev list1 : List (String × DataW Unit) := [("math/bits.deBruijn64tab", Rows.laid_math_bits_deBruijn64tab)]
theorem list_eq : list1 = [("math/bits.deBruijn64tab", Lib.tabData .u8 (Lib.deBruijn64tab.map Int.ofNat))] := by kernel_rfl
theorem tab_len : (Lib.deBruijn64tab.map Int.ofNat).length = 64 := by decide

/-- The door's own heap meets the condition. -/
theorem met (os : Os) (args : Array Value) : laidMetH Tryd.prog list1 ((World.doorLaid Tryd.prog 14 os).forCall (fun _ _ => 0) ⟨#[], args, []⟩).memory :=
  laidMetH_of_parts3 (fuel := 8) (laidMet_of_run' 8 (by kernel_rfl) (by kernel_rfl)) (by kernel_rfl) (by kernel_rfl)

/-- What the condition gives a walk. -/
theorem tab {W : World} (h : laidMetH Tryd.prog list1 W) : Tab W := by
  rw [MakeChecks.laidMetH_plain _ _ _ (by kernel_rfl), list_eq] at h
  have ht := Lib.tabIs_of_head (P := Tryd.prog) (W := W) (t := 80) (e := 5) (n := 64) gTab tTab Tryd.underlying80 Tryd.underlying5 (by kernel_rfl) (by kernel_rfl) h
  intro j hj
  have hc := ht.cell gTab j (by rw [tab_len]; exact hj)
  rw [hc]
  congr 2
  have hl : j < Lib.deBruijn64tab.length := by have := tab_len; simp at this; omega
  simp [hl]
end door

end Go.Proofs.YtmoiiidfhkfdgaaDoor
