/-
  No cell of these rows narrows 'for every input' (looked for: loops, veiled, ifaces, maps, wideKeys, modest, calm, conditions, laid).
  DERIVED. THE GIVEN ROWS OF THIS SEAT. 6 by the template 'for every input the law returns true; each argument reads behind the call as it read before'; 0 by the template 'total and deterministic' (their statements: YthkleolkkgichaaTotals.lean).
  GIVEN WITH THE SEED: the statements are not yours to turn. If you find one false, say at which input.
  Laid BY PROGRAM, IN A SANDBOX (cutbox-rows.mjs): the forced cells as the released guide's own fill.sh prints them over the translation 83fe10b7d13fcd37… (all of the seat's roots in one cut). By AI agents, Wed Nov 11 2026. No macro, syntax, notation, axiom, sorry.
-/
import Derived.Test.YthkleolkkgichaaChecked
import GoSem.Claim
import GoSem.ClaimJoined
import GoSem.ClaimMapViews
import Derived.JoinedTies
import Derived.KernelRfl
namespace Go.Proofs.Ythkleolkkgichaa
/- THE CELL 'sum', in the pinned program and in every row, IS THE sha256 OF THE DUMP (.gsa) THAT YthkleolkkgichaaProg.lean LOADS. Nothing in Lean hashes anything: it is a label: what it is worth is what the hold of that sum in a sandbox is worth. -/
noncomputable def Try.pinned : Pinned := { name := "ythkleolkkgichaa", sum := "83fe10b7d13fcd37eba35db01ed505c12808444926bce81c27f308387745e77a", checked := Try.checked }
namespace Rows
def none {H : Type} : Left H := { results := [], args := [] }

/-- 'placketlaw01.OctetClasses': WHATEVER THE INPUT: true; the input reads as it did. -/
def octetClassesSpec : ChangeSpec := { name := "octetClasses", fn := fun _ => fun
  | [d] => { results := [.lit (.bool true)], args := [d] }
  | _ => none }
def octetClassesRow : OpenClaim := { program := "ythkleolkkgichaa", sum := "83fe10b7d13fcd37eba35db01ed505c12808444926bce81c27f308387745e77a", func := "placket/placketlaw01.OctetClasses", spec := "octetClasses", inPlace := ["internal/abi.NoEscape"], unfollowed := true, recurses := true, apart := false }
def OctetClassesSaid : Prop := octetClassesRow.holds Try.pinned (OpenSpec.ofChange octetClassesSpec)

/-- ITS FALSE NEIGHBOUR: 'it returns false'. Refute it at one input. -/
def octetClassesWrong : ChangeSpec := { name := "octetClasses", fn := fun _ => fun
  | [d] => { results := [.lit (.bool false)], args := [d] }
  | _ => none }
def OctetClassesWrongFalsely : Prop := octetClassesRow.holds Try.pinned (OpenSpec.ofChange octetClassesWrong)

/-- 'placketlaw01.OctetWides': WHATEVER THE INPUT: true; the input reads as it did. -/
def octetWidesSpec : ChangeSpec := { name := "octetWides", fn := fun _ => fun
  | [d] => { results := [.lit (.bool true)], args := [d] }
  | _ => none }
def octetWidesRow : OpenClaim := { program := "ythkleolkkgichaa", sum := "83fe10b7d13fcd37eba35db01ed505c12808444926bce81c27f308387745e77a", func := "placket/placketlaw01.OctetWides", spec := "octetWides", inPlace := ["internal/abi.NoEscape"], unfollowed := true, recurses := true, apart := false }
def OctetWidesSaid : Prop := octetWidesRow.holds Try.pinned (OpenSpec.ofChange octetWidesSpec)

/-- ITS FALSE NEIGHBOUR: 'it returns false'. Refute it at one input. -/
def octetWidesWrong : ChangeSpec := { name := "octetWides", fn := fun _ => fun
  | [d] => { results := [.lit (.bool false)], args := [d] }
  | _ => none }
def OctetWidesWrongFalsely : Prop := octetWidesRow.holds Try.pinned (OpenSpec.ofChange octetWidesWrong)

/-- 'placketlaw01.OctetNarrows': WHATEVER THE INPUT: true; the input reads as it did. -/
def octetNarrowsSpec : ChangeSpec := { name := "octetNarrows", fn := fun _ => fun
  | [d] => { results := [.lit (.bool true)], args := [d] }
  | _ => none }
def octetNarrowsRow : OpenClaim := { program := "ythkleolkkgichaa", sum := "83fe10b7d13fcd37eba35db01ed505c12808444926bce81c27f308387745e77a", func := "placket/placketlaw01.OctetNarrows", spec := "octetNarrows", inPlace := ["internal/abi.NoEscape"], unfollowed := true, recurses := true, apart := false }
def OctetNarrowsSaid : Prop := octetNarrowsRow.holds Try.pinned (OpenSpec.ofChange octetNarrowsSpec)

/-- ITS FALSE NEIGHBOUR: 'it returns false'. Refute it at one input. -/
def octetNarrowsWrong : ChangeSpec := { name := "octetNarrows", fn := fun _ => fun
  | [d] => { results := [.lit (.bool false)], args := [d] }
  | _ => none }
def OctetNarrowsWrongFalsely : Prop := octetNarrowsRow.holds Try.pinned (OpenSpec.ofChange octetNarrowsWrong)

/-- 'placketlaw01.OctetOnce': WHATEVER THE INPUT: true; the input reads as it did. -/
def octetOnceSpec : ChangeSpec := { name := "octetOnce", fn := fun _ => fun
  | [d1, d2] => { results := [.lit (.bool true)], args := [d1, d2] }
  | _ => none }
def octetOnceRow : OpenClaim := { program := "ythkleolkkgichaa", sum := "83fe10b7d13fcd37eba35db01ed505c12808444926bce81c27f308387745e77a", func := "placket/placketlaw01.OctetOnce", spec := "octetOnce", inPlace := ["internal/abi.NoEscape"], unfollowed := true, recurses := true, apart := false }
def OctetOnceSaid : Prop := octetOnceRow.holds Try.pinned (OpenSpec.ofChange octetOnceSpec)

/-- ITS FALSE NEIGHBOUR: 'it returns false'. Refute it at one input. -/
def octetOnceWrong : ChangeSpec := { name := "octetOnce", fn := fun _ => fun
  | [d1, d2] => { results := [.lit (.bool false)], args := [d1, d2] }
  | _ => none }
def OctetOnceWrongFalsely : Prop := octetOnceRow.holds Try.pinned (OpenSpec.ofChange octetOnceWrong)

/-- 'placketlaw01.OctetSets': WHATEVER THE INPUT: true; the input reads as it did. -/
def octetSetsSpec : ChangeSpec := { name := "octetSets", fn := fun _ => fun
  | [d1, d2, d3] => { results := [.lit (.bool true)], args := [d1, d2, d3] }
  | _ => none }
def octetSetsRow : OpenClaim := { program := "ythkleolkkgichaa", sum := "83fe10b7d13fcd37eba35db01ed505c12808444926bce81c27f308387745e77a", func := "placket/placketlaw01.OctetSets", spec := "octetSets", inPlace := ["internal/abi.NoEscape"], unfollowed := true, recurses := true, apart := false }
def OctetSetsSaid : Prop := octetSetsRow.holds Try.pinned (OpenSpec.ofChange octetSetsSpec)

/-- ITS FALSE NEIGHBOUR: 'it returns false'. Refute it at one input. -/
def octetSetsWrong : ChangeSpec := { name := "octetSets", fn := fun _ => fun
  | [d1, d2, d3] => { results := [.lit (.bool false)], args := [d1, d2, d3] }
  | _ => none }
def OctetSetsWrongFalsely : Prop := octetSetsRow.holds Try.pinned (OpenSpec.ofChange octetSetsWrong)

/-- 'placketlaw01.OctetLaws': WHATEVER THE INPUT: true; the input reads as it did. -/
def octetLawsSpec : ChangeSpec := { name := "octetLaws", fn := fun _ => fun
  | [d1, d2] => { results := [.lit (.bool true)], args := [d1, d2] }
  | _ => none }
def octetLawsRow : OpenClaim := { program := "ythkleolkkgichaa", sum := "83fe10b7d13fcd37eba35db01ed505c12808444926bce81c27f308387745e77a", func := "placket/placketlaw01.OctetLaws", spec := "octetLaws", inPlace := ["internal/abi.NoEscape"], unfollowed := true, recurses := true, apart := false }
def OctetLawsSaid : Prop := octetLawsRow.holds Try.pinned (OpenSpec.ofChange octetLawsSpec)

/-- ITS FALSE NEIGHBOUR: 'it returns false'. Refute it at one input. -/
def octetLawsWrong : ChangeSpec := { name := "octetLaws", fn := fun _ => fun
  | [d1, d2] => { results := [.lit (.bool false)], args := [d1, d2] }
  | _ => none }
def OctetLawsWrongFalsely : Prop := octetLawsRow.holds Try.pinned (OpenSpec.ofChange octetLawsWrong)

/- THE SECOND FORM. 'bulk': how many values and letters a reading holds, each counted each time it is reached (what is shared counts as often as it is met; a slice's spare places count too). A statement '..UptoSaid' is the law's where the arguments, and the package variables that the reading takes, are together of bulk at most 1048576: NARROWER than '..Said'. Prove '..Said' where nothing that the law and all that it calls make is longer than what came in: it says more and counts as full. Else prove '..UptoSaid'. A law counts once. -/
mutual
def uptoBulk {H : Type} : DataW H → Nat
  | .lit (.string bytes) => bytes.length + 1
  | .lit _ => 1
  | .nil => 1
  | .ptr d => uptoBulk d + 1
  | .slice elems spare => uptoBulkAll elems + uptoBulkAll spare + 1
  | .agg parts => uptoBulkAll parts + 1
  | .iface _ d => uptoBulk d + 1
  | .map entries => uptoBulkEntries entries + 1
  | .held _ => 1
def uptoBulkAll {H : Type} : List (DataW H) → Nat
  | [] => 0
  | d :: r => uptoBulk d + uptoBulkAll r
def uptoBulkEntries {H : Type} : List (Lit × DataW H) → Nat
  | [] => 0
  | x :: r => uptoBulkEntry x + uptoBulkEntries r
def uptoBulkEntry {H : Type} : Lit × DataW H → Nat
  | (.string bytes, d) => bytes.length + uptoBulk d + 1
  | (_, d) => uptoBulk d + 1
 end
def uptoSmall : (H : Type) → List (DataW H) → Bool := fun _ ds => decide (uptoBulkAll ds ≤ 1048576)
def OpenSpec.upto (s : _root_.Go.ChangeSpec) : _root_.Go.OpenSpec := { _root_.Go.OpenSpec.ofChange s with cond := some uptoSmall }

/-- 'placketlaw01.OctetClasses', WHERE WHAT IT READS IS OF BULK AT MOST 1048576: true; the input reads as it did. -/
def octetClassesUptoRow : OpenClaim := { program := "ythkleolkkgichaa", sum := "83fe10b7d13fcd37eba35db01ed505c12808444926bce81c27f308387745e77a", func := "placket/placketlaw01.OctetClasses", spec := "octetClasses", inPlace := ["internal/abi.NoEscape"], unfollowed := true, recurses := true, apart := false, narrowed := true }
def OctetClassesUptoSaid : Prop := octetClassesUptoRow.holds Try.pinned (OpenSpec.upto octetClassesSpec)

/-- 'placketlaw01.OctetWides', WHERE WHAT IT READS IS OF BULK AT MOST 1048576: true; the input reads as it did. -/
def octetWidesUptoRow : OpenClaim := { program := "ythkleolkkgichaa", sum := "83fe10b7d13fcd37eba35db01ed505c12808444926bce81c27f308387745e77a", func := "placket/placketlaw01.OctetWides", spec := "octetWides", inPlace := ["internal/abi.NoEscape"], unfollowed := true, recurses := true, apart := false, narrowed := true }
def OctetWidesUptoSaid : Prop := octetWidesUptoRow.holds Try.pinned (OpenSpec.upto octetWidesSpec)

/-- 'placketlaw01.OctetNarrows', WHERE WHAT IT READS IS OF BULK AT MOST 1048576: true; the input reads as it did. -/
def octetNarrowsUptoRow : OpenClaim := { program := "ythkleolkkgichaa", sum := "83fe10b7d13fcd37eba35db01ed505c12808444926bce81c27f308387745e77a", func := "placket/placketlaw01.OctetNarrows", spec := "octetNarrows", inPlace := ["internal/abi.NoEscape"], unfollowed := true, recurses := true, apart := false, narrowed := true }
def OctetNarrowsUptoSaid : Prop := octetNarrowsUptoRow.holds Try.pinned (OpenSpec.upto octetNarrowsSpec)

/-- 'placketlaw01.OctetOnce', WHERE WHAT IT READS IS OF BULK AT MOST 1048576: true; the input reads as it did. -/
def octetOnceUptoRow : OpenClaim := { program := "ythkleolkkgichaa", sum := "83fe10b7d13fcd37eba35db01ed505c12808444926bce81c27f308387745e77a", func := "placket/placketlaw01.OctetOnce", spec := "octetOnce", inPlace := ["internal/abi.NoEscape"], unfollowed := true, recurses := true, apart := false, narrowed := true }
def OctetOnceUptoSaid : Prop := octetOnceUptoRow.holds Try.pinned (OpenSpec.upto octetOnceSpec)

/-- 'placketlaw01.OctetSets', WHERE WHAT IT READS IS OF BULK AT MOST 1048576: true; the input reads as it did. -/
def octetSetsUptoRow : OpenClaim := { program := "ythkleolkkgichaa", sum := "83fe10b7d13fcd37eba35db01ed505c12808444926bce81c27f308387745e77a", func := "placket/placketlaw01.OctetSets", spec := "octetSets", inPlace := ["internal/abi.NoEscape"], unfollowed := true, recurses := true, apart := false, narrowed := true }
def OctetSetsUptoSaid : Prop := octetSetsUptoRow.holds Try.pinned (OpenSpec.upto octetSetsSpec)

/-- 'placketlaw01.OctetLaws', WHERE WHAT IT READS IS OF BULK AT MOST 1048576: true; the input reads as it did. -/
def octetLawsUptoRow : OpenClaim := { program := "ythkleolkkgichaa", sum := "83fe10b7d13fcd37eba35db01ed505c12808444926bce81c27f308387745e77a", func := "placket/placketlaw01.OctetLaws", spec := "octetLaws", inPlace := ["internal/abi.NoEscape"], unfollowed := true, recurses := true, apart := false, narrowed := true }
def OctetLawsUptoSaid : Prop := octetLawsUptoRow.holds Try.pinned (OpenSpec.upto octetLawsSpec)

end Rows
end Go.Proofs.Ythkleolkkgichaa
