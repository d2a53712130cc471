/-
  NARROWER THAN 'FOR EVERY INPUT', by the rows' own cells (each row's printed sentence says how): BracketParses: laid · BracketNots: laid · BracketBehind: laid · BracketItems: laid · BracketRanges: laid.
  DERIVED. THE GIVEN ROWS OF THIS SEAT. 5 by the template 'for every input the law returns true; each argument reads behind the call as it read before'; 0 by the template 'total and deterministic' (their statements: YtmoiiidfhkfdgaaDoorTotals.lean).
  GIVEN WITH THE SEED: the statements are not yours to turn. If you find one false, say at which input.
  Laid BY PROGRAM, IN A SANDBOX (cutbox-rows.mjs): the forced cells as the released guide's own fill.sh prints them over the translation bfe221c7976f2590… (all of the seat's roots in one cut). By AI agents, Wed Nov 11 2026. No macro, syntax, notation, axiom, sorry.
-/
import Derived.Test.YtmoiiidfhkfdgaaDoorChecked
import GoSem.Claim
import GoSem.ClaimJoined
import GoSem.ClaimMapViews
import Derived.JoinedTies
import Derived.KernelRfl
namespace Go.Proofs.YtmoiiidfhkfdgaaDoor
/- THE CELL 'sum', in the pinned program and in every row, IS THE sha256 OF THE DUMP (.gsa) THAT YtmoiiidfhkfdgaaDoorProg.lean LOADS. Nothing in Lean hashes anything: it is a label: what it is worth is what the hold of that sum in a sandbox is worth. -/
noncomputable def Tryd.pinned : Pinned := { name := "ytmoiiidfhkfdgaadoor", sum := "bfe221c7976f25906b8569b2f33f4aef5af61c7ad7d4a1cc303551581333dce7", checked := Tryd.checked }
namespace Rows
def none {H : Type} : Left H := { results := [], args := [] }

/- WHAT THE LISTED PACKAGE-LEVEL VARIABLES READ AS WHEN THE CALL BEGINS. Each datum BY PROGRAM (the guide's laid-datum.mjs) off the statement by which the dump's own 'gosem.cut.vars' lays the variable. In a bare row this is a premise. The card (YtmoiiidfhkfdgaaDoorCards.lean) ties it to the program's text. -/
def laid_math_bits_deBruijn64tab {H : Type} : DataW H := .agg [.lit (.int .u8 0), .lit (.int .u8 1), .lit (.int .u8 56), .lit (.int .u8 2), .lit (.int .u8 57), .lit (.int .u8 49), .lit (.int .u8 28), .lit (.int .u8 3), .lit (.int .u8 61), .lit (.int .u8 58), .lit (.int .u8 42), .lit (.int .u8 50), .lit (.int .u8 38), .lit (.int .u8 29), .lit (.int .u8 17), .lit (.int .u8 4), .lit (.int .u8 62), .lit (.int .u8 47), .lit (.int .u8 59), .lit (.int .u8 36), .lit (.int .u8 45), .lit (.int .u8 43), .lit (.int .u8 51), .lit (.int .u8 22), .lit (.int .u8 53), .lit (.int .u8 39), .lit (.int .u8 33), .lit (.int .u8 30), .lit (.int .u8 24), .lit (.int .u8 18), .lit (.int .u8 12), .lit (.int .u8 5), .lit (.int .u8 63), .lit (.int .u8 55), .lit (.int .u8 48), .lit (.int .u8 27), .lit (.int .u8 60), .lit (.int .u8 41), .lit (.int .u8 37), .lit (.int .u8 16), .lit (.int .u8 46), .lit (.int .u8 35), .lit (.int .u8 44), .lit (.int .u8 21), .lit (.int .u8 52), .lit (.int .u8 32), .lit (.int .u8 23), .lit (.int .u8 11), .lit (.int .u8 54), .lit (.int .u8 26), .lit (.int .u8 40), .lit (.int .u8 15), .lit (.int .u8 34), .lit (.int .u8 20), .lit (.int .u8 31), .lit (.int .u8 10), .lit (.int .u8 25), .lit (.int .u8 14), .lit (.int .u8 19), .lit (.int .u8 9), .lit (.int .u8 13), .lit (.int .u8 8), .lit (.int .u8 7), .lit (.int .u8 6)]

/-- 'placketlaw02.BracketParses': WHATEVER THE INPUT: true; the input reads as it did. -/
def bracketParsesSpec : ChangeSpec := { name := "bracketParses", fn := fun _ => fun
  | [d1, d2] => { results := [.lit (.bool true)], args := [d1, d2] }
  | _ => none }
def bracketParsesRow : OpenClaim := { program := "ytmoiiidfhkfdgaadoor", sum := "bfe221c7976f25906b8569b2f33f4aef5af61c7ad7d4a1cc303551581333dce7", func := "placket/placketlaw02.BracketParses", spec := "bracketParses", inPlace := ["internal/bytealg.IndexByteString", "internal/bytealg.IndexString"], unfollowed := true, recurses := true, named := ["internal/bytealg.MaxLen", "math/bits.deBruijn64tab"], apart := false, laid := [("math/bits.deBruijn64tab", laid_math_bits_deBruijn64tab)] }
def BracketParsesSaid : Prop := bracketParsesRow.holds Tryd.pinned (OpenSpec.ofChange bracketParsesSpec)

/-- ITS FALSE NEIGHBOUR: 'it returns false'. Refute it at one input. -/
def bracketParsesWrong : ChangeSpec := { name := "bracketParses", fn := fun _ => fun
  | [d1, d2] => { results := [.lit (.bool false)], args := [d1, d2] }
  | _ => none }
def BracketParsesWrongFalsely : Prop := bracketParsesRow.holds Tryd.pinned (OpenSpec.ofChange bracketParsesWrong)

/-- 'placketlaw02.BracketNots': WHATEVER THE INPUT: true; the input reads as it did. -/
def bracketNotsSpec : ChangeSpec := { name := "bracketNots", fn := fun _ => fun
  | [d] => { results := [.lit (.bool true)], args := [d] }
  | _ => none }
def bracketNotsRow : OpenClaim := { program := "ytmoiiidfhkfdgaadoor", sum := "bfe221c7976f25906b8569b2f33f4aef5af61c7ad7d4a1cc303551581333dce7", func := "placket/placketlaw02.BracketNots", spec := "bracketNots", inPlace := ["internal/bytealg.IndexByteString", "internal/bytealg.IndexString"], unfollowed := true, recurses := true, named := ["internal/bytealg.MaxLen", "math/bits.deBruijn64tab"], apart := false, laid := [("math/bits.deBruijn64tab", laid_math_bits_deBruijn64tab)] }
def BracketNotsSaid : Prop := bracketNotsRow.holds Tryd.pinned (OpenSpec.ofChange bracketNotsSpec)

/-- ITS FALSE NEIGHBOUR: 'it returns false'. Refute it at one input. -/
def bracketNotsWrong : ChangeSpec := { name := "bracketNots", fn := fun _ => fun
  | [d] => { results := [.lit (.bool false)], args := [d] }
  | _ => none }
def BracketNotsWrongFalsely : Prop := bracketNotsRow.holds Tryd.pinned (OpenSpec.ofChange bracketNotsWrong)

/-- 'placketlaw02.BracketBehind': WHATEVER THE INPUT: true; the input reads as it did. -/
def bracketBehindSpec : ChangeSpec := { name := "bracketBehind", fn := fun _ => fun
  | [d1, d2, d3] => { results := [.lit (.bool true)], args := [d1, d2, d3] }
  | _ => none }
def bracketBehindRow : OpenClaim := { program := "ytmoiiidfhkfdgaadoor", sum := "bfe221c7976f25906b8569b2f33f4aef5af61c7ad7d4a1cc303551581333dce7", func := "placket/placketlaw02.BracketBehind", spec := "bracketBehind", inPlace := ["internal/bytealg.IndexByteString", "internal/bytealg.IndexString"], unfollowed := true, recurses := true, named := ["internal/bytealg.MaxLen", "math/bits.deBruijn64tab"], apart := false, laid := [("math/bits.deBruijn64tab", laid_math_bits_deBruijn64tab)] }
def BracketBehindSaid : Prop := bracketBehindRow.holds Tryd.pinned (OpenSpec.ofChange bracketBehindSpec)

/-- ITS FALSE NEIGHBOUR: 'it returns false'. Refute it at one input. -/
def bracketBehindWrong : ChangeSpec := { name := "bracketBehind", fn := fun _ => fun
  | [d1, d2, d3] => { results := [.lit (.bool false)], args := [d1, d2, d3] }
  | _ => none }
def BracketBehindWrongFalsely : Prop := bracketBehindRow.holds Tryd.pinned (OpenSpec.ofChange bracketBehindWrong)

/-- 'placketlaw02.BracketItems': WHATEVER THE INPUT: true; the input reads as it did. -/
def bracketItemsSpec : ChangeSpec := { name := "bracketItems", fn := fun _ => fun
  | [d1, d2] => { results := [.lit (.bool true)], args := [d1, d2] }
  | _ => none }
def bracketItemsRow : OpenClaim := { program := "ytmoiiidfhkfdgaadoor", sum := "bfe221c7976f25906b8569b2f33f4aef5af61c7ad7d4a1cc303551581333dce7", func := "placket/placketlaw02.BracketItems", spec := "bracketItems", inPlace := ["internal/bytealg.IndexByteString", "internal/bytealg.IndexString"], unfollowed := true, recurses := true, named := ["internal/bytealg.MaxLen", "math/bits.deBruijn64tab"], apart := false, laid := [("math/bits.deBruijn64tab", laid_math_bits_deBruijn64tab)] }
def BracketItemsSaid : Prop := bracketItemsRow.holds Tryd.pinned (OpenSpec.ofChange bracketItemsSpec)

/-- ITS FALSE NEIGHBOUR: 'it returns false'. Refute it at one input. -/
def bracketItemsWrong : ChangeSpec := { name := "bracketItems", fn := fun _ => fun
  | [d1, d2] => { results := [.lit (.bool false)], args := [d1, d2] }
  | _ => none }
def BracketItemsWrongFalsely : Prop := bracketItemsRow.holds Tryd.pinned (OpenSpec.ofChange bracketItemsWrong)

/-- 'placketlaw02.BracketRanges': WHATEVER THE INPUT: true; the input reads as it did. -/
def bracketRangesSpec : ChangeSpec := { name := "bracketRanges", fn := fun _ => fun
  | [d1, d2] => { results := [.lit (.bool true)], args := [d1, d2] }
  | _ => none }
def bracketRangesRow : OpenClaim := { program := "ytmoiiidfhkfdgaadoor", sum := "bfe221c7976f25906b8569b2f33f4aef5af61c7ad7d4a1cc303551581333dce7", func := "placket/placketlaw02.BracketRanges", spec := "bracketRanges", inPlace := ["internal/bytealg.IndexByteString", "internal/bytealg.IndexString"], unfollowed := true, recurses := true, named := ["internal/bytealg.MaxLen", "math/bits.deBruijn64tab"], apart := false, laid := [("math/bits.deBruijn64tab", laid_math_bits_deBruijn64tab)] }
def BracketRangesSaid : Prop := bracketRangesRow.holds Tryd.pinned (OpenSpec.ofChange bracketRangesSpec)

/-- ITS FALSE NEIGHBOUR: 'it returns false'. Refute it at one input. -/
def bracketRangesWrong : ChangeSpec := { name := "bracketRanges", fn := fun _ => fun
  | [d1, d2] => { results := [.lit (.bool false)], args := [d1, d2] }
  | _ => none }
def BracketRangesWrongFalsely : Prop := bracketRangesRow.holds Tryd.pinned (OpenSpec.ofChange bracketRangesWrong)

/- THE SECOND FORM. 'bulk': how many values and letters a reading holds, each counted each time it is reached (what is shared counts as often as it is met; a slice's spare places count too). A statement '..UptoSaid' is the law's where the arguments, and the package variables that the reading takes, are together of bulk at most 1048576: NARROWER than '..Said'. Prove '..Said' where nothing that the law and all that it calls make is longer than what came in: it says more and counts as full. Else prove '..UptoSaid'. A law counts once. -/
mutual
def uptoBulk {H : Type} : DataW H → Nat
  | .lit (.string bytes) => bytes.length + 1
  | .lit _ => 1
  | .nil => 1
  | .ptr d => uptoBulk d + 1
  | .slice elems spare => uptoBulkAll elems + uptoBulkAll spare + 1
  | .agg parts => uptoBulkAll parts + 1
  | .iface _ d => uptoBulk d + 1
  | .map entries => uptoBulkEntries entries + 1
  | .held _ => 1
def uptoBulkAll {H : Type} : List (DataW H) → Nat
  | [] => 0
  | d :: r => uptoBulk d + uptoBulkAll r
def uptoBulkEntries {H : Type} : List (Lit × DataW H) → Nat
  | [] => 0
  | x :: r => uptoBulkEntry x + uptoBulkEntries r
def uptoBulkEntry {H : Type} : Lit × DataW H → Nat
  | (.string bytes, d) => bytes.length + uptoBulk d + 1
  | (_, d) => uptoBulk d + 1
 end
def uptoSmall : (H : Type) → List (DataW H) → Bool := fun _ ds => decide (uptoBulkAll ds ≤ 1048576)
def OpenSpec.upto (s : _root_.Go.ChangeSpec) : _root_.Go.OpenSpec := { _root_.Go.OpenSpec.ofChange s with cond := some uptoSmall }

/-- 'placketlaw02.BracketParses', WHERE WHAT IT READS IS OF BULK AT MOST 1048576: true; the input reads as it did. -/
def bracketParsesUptoRow : OpenClaim := { program := "ytmoiiidfhkfdgaadoor", sum := "bfe221c7976f25906b8569b2f33f4aef5af61c7ad7d4a1cc303551581333dce7", func := "placket/placketlaw02.BracketParses", spec := "bracketParses", inPlace := ["internal/bytealg.IndexByteString", "internal/bytealg.IndexString"], unfollowed := true, recurses := true, named := ["internal/bytealg.MaxLen", "math/bits.deBruijn64tab"], apart := false, laid := [("math/bits.deBruijn64tab", laid_math_bits_deBruijn64tab)], narrowed := true }
def BracketParsesUptoSaid : Prop := bracketParsesUptoRow.holds Tryd.pinned (OpenSpec.upto bracketParsesSpec)

/-- 'placketlaw02.BracketNots', WHERE WHAT IT READS IS OF BULK AT MOST 1048576: true; the input reads as it did. -/
def bracketNotsUptoRow : OpenClaim := { program := "ytmoiiidfhkfdgaadoor", sum := "bfe221c7976f25906b8569b2f33f4aef5af61c7ad7d4a1cc303551581333dce7", func := "placket/placketlaw02.BracketNots", spec := "bracketNots", inPlace := ["internal/bytealg.IndexByteString", "internal/bytealg.IndexString"], unfollowed := true, recurses := true, named := ["internal/bytealg.MaxLen", "math/bits.deBruijn64tab"], apart := false, laid := [("math/bits.deBruijn64tab", laid_math_bits_deBruijn64tab)], narrowed := true }
def BracketNotsUptoSaid : Prop := bracketNotsUptoRow.holds Tryd.pinned (OpenSpec.upto bracketNotsSpec)

/-- 'placketlaw02.BracketBehind', WHERE WHAT IT READS IS OF BULK AT MOST 1048576: true; the input reads as it did. -/
def bracketBehindUptoRow : OpenClaim := { program := "ytmoiiidfhkfdgaadoor", sum := "bfe221c7976f25906b8569b2f33f4aef5af61c7ad7d4a1cc303551581333dce7", func := "placket/placketlaw02.BracketBehind", spec := "bracketBehind", inPlace := ["internal/bytealg.IndexByteString", "internal/bytealg.IndexString"], unfollowed := true, recurses := true, named := ["internal/bytealg.MaxLen", "math/bits.deBruijn64tab"], apart := false, laid := [("math/bits.deBruijn64tab", laid_math_bits_deBruijn64tab)], narrowed := true }
def BracketBehindUptoSaid : Prop := bracketBehindUptoRow.holds Tryd.pinned (OpenSpec.upto bracketBehindSpec)

/-- 'placketlaw02.BracketItems', WHERE WHAT IT READS IS OF BULK AT MOST 1048576: true; the input reads as it did. -/
def bracketItemsUptoRow : OpenClaim := { program := "ytmoiiidfhkfdgaadoor", sum := "bfe221c7976f25906b8569b2f33f4aef5af61c7ad7d4a1cc303551581333dce7", func := "placket/placketlaw02.BracketItems", spec := "bracketItems", inPlace := ["internal/bytealg.IndexByteString", "internal/bytealg.IndexString"], unfollowed := true, recurses := true, named := ["internal/bytealg.MaxLen", "math/bits.deBruijn64tab"], apart := false, laid := [("math/bits.deBruijn64tab", laid_math_bits_deBruijn64tab)], narrowed := true }
def BracketItemsUptoSaid : Prop := bracketItemsUptoRow.holds Tryd.pinned (OpenSpec.upto bracketItemsSpec)

/-- 'placketlaw02.BracketRanges', WHERE WHAT IT READS IS OF BULK AT MOST 1048576: true; the input reads as it did. -/
def bracketRangesUptoRow : OpenClaim := { program := "ytmoiiidfhkfdgaadoor", sum := "bfe221c7976f25906b8569b2f33f4aef5af61c7ad7d4a1cc303551581333dce7", func := "placket/placketlaw02.BracketRanges", spec := "bracketRanges", inPlace := ["internal/bytealg.IndexByteString", "internal/bytealg.IndexString"], unfollowed := true, recurses := true, named := ["internal/bytealg.MaxLen", "math/bits.deBruijn64tab"], apart := false, laid := [("math/bits.deBruijn64tab", laid_math_bits_deBruijn64tab)], narrowed := true }
def BracketRangesUptoSaid : Prop := bracketRangesUptoRow.holds Tryd.pinned (OpenSpec.upto bracketRangesSpec)

end Rows
end Go.Proofs.YtmoiiidfhkfdgaaDoor
