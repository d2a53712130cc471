/-
  The tables of unicode/utf8 out of a row's condition (none of them is read); the list.
-/
import Derived.Test.YthdcpjmjdbldiaaDoorBase
import Derived.Test.YthdcpjmjdbldiaaDoorRows
import Derived.Test.YthdcpjmjdbldiaaDoorClaim
import Derived.ProofKit
import Derived.LaidMore
import Derived.Lay
import Derived.SevenTiedAt
import Derived.OpenShut
import Derived.Stop.Joined
import Derived.Lib.LaidTab
namespace Go.Proofs.YthdcpjmjdbldiaaDoor
open Go.ChangeShapes Go.WideShapes Go.ChangeAt Go.RowKit

namespace door
theorem own : ownKnob Tryd.prog.godebug = none := by kernel_rfl
theorem laidOut : laidOutB Tryd.prog = true := by kernel_rfl
abbrev list1 : List (String × DataW Unit) := [("unicode/utf8.acceptRanges", Rows.laid_unicode_utf8_acceptRanges), ("unicode/utf8.first", Rows.laid_unicode_utf8_first)]

theorem tab {W : World} (_ : laidMetH Tryd.prog list1 W) : True := trivial
end door
end Go.Proofs.YthdcpjmjdbldiaaDoor
