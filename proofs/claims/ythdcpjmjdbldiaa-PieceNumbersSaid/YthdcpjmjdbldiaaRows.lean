/-
  No cell of these rows narrows 'for every input' (looked for: loops, veiled, ifaces, maps, wideKeys, modest, calm, conditions, laid).
  DERIVED. THE GIVEN ROWS OF THIS SEAT. 4 by the template 'for every input the law returns true; each argument reads behind the call as it read before'; 0 by the template 'total and deterministic' (their statements: YthdcpjmjdbldiaaTotals.lean).
  GIVEN WITH THE SEED: the statements are not yours to turn. If you find one false, say at which input.
  Laid BY PROGRAM, IN A SANDBOX (cutbox-rows.mjs): the forced cells as the released guide's own fill.sh prints them over the translation 7dea5830525ed257… (all of the seat's roots in one cut). By AI agents, Wed Nov 11 2026. No macro, syntax, notation, axiom, sorry.
-/
import Derived.Test.YthdcpjmjdbldiaaChecked
import GoSem.Claim
import GoSem.ClaimJoined
import GoSem.ClaimMapViews
import Derived.JoinedTies
import Derived.KernelRfl
namespace Go.Proofs.Ythdcpjmjdbldiaa
/- THE CELL 'sum', in the pinned program and in every row, IS THE sha256 OF THE DUMP (.gsa) THAT YthdcpjmjdbldiaaProg.lean LOADS. Nothing in Lean hashes anything: it is a label: what it is worth is what the hold of that sum in a sandbox is worth. -/
noncomputable def Try.pinned : Pinned := { name := "ythdcpjmjdbldiaa", sum := "7dea5830525ed257f012b60807e929c50655a36bdd7f6549acc29d44b0fb8c27", checked := Try.checked }
namespace Rows
def none {H : Type} : Left H := { results := [], args := [] }

/-- 'placketlaw11.PieceBetween': WHATEVER THE INPUT: true; the input reads as it did. -/
def pieceBetweenSpec : ChangeSpec := { name := "pieceBetween", fn := fun _ => fun
  | [d1, d2, d3] => { results := [.lit (.bool true)], args := [d1, d2, d3] }
  | _ => none }
def pieceBetweenRow : OpenClaim := { program := "ythdcpjmjdbldiaa", sum := "7dea5830525ed257f012b60807e929c50655a36bdd7f6549acc29d44b0fb8c27", func := "placket/placketlaw11.PieceBetween", spec := "pieceBetween", inPlace := ["internal/abi.NoEscape", "internal/bytealg.IndexByteString"], apart := false }
def PieceBetweenSaid : Prop := pieceBetweenRow.holds Try.pinned (OpenSpec.ofChange pieceBetweenSpec)

/-- ITS FALSE NEIGHBOUR: 'it returns false'. Refute it at one input. -/
def pieceBetweenWrong : ChangeSpec := { name := "pieceBetween", fn := fun _ => fun
  | [d1, d2, d3] => { results := [.lit (.bool false)], args := [d1, d2, d3] }
  | _ => none }
def PieceBetweenWrongFalsely : Prop := pieceBetweenRow.holds Try.pinned (OpenSpec.ofChange pieceBetweenWrong)

/-- 'placketlaw11.PieceQuoted': WHATEVER THE INPUT: true; the input reads as it did. -/
def pieceQuotedSpec : ChangeSpec := { name := "pieceQuoted", fn := fun _ => fun
  | [d1, d2, d3] => { results := [.lit (.bool true)], args := [d1, d2, d3] }
  | _ => none }
def pieceQuotedRow : OpenClaim := { program := "ythdcpjmjdbldiaa", sum := "7dea5830525ed257f012b60807e929c50655a36bdd7f6549acc29d44b0fb8c27", func := "placket/placketlaw11.PieceQuoted", spec := "pieceQuoted", inPlace := ["internal/abi.NoEscape", "internal/bytealg.IndexByteString"], apart := false }
def PieceQuotedSaid : Prop := pieceQuotedRow.holds Try.pinned (OpenSpec.ofChange pieceQuotedSpec)

/-- ITS FALSE NEIGHBOUR: 'it returns false'. Refute it at one input. -/
def pieceQuotedWrong : ChangeSpec := { name := "pieceQuoted", fn := fun _ => fun
  | [d1, d2, d3] => { results := [.lit (.bool false)], args := [d1, d2, d3] }
  | _ => none }
def PieceQuotedWrongFalsely : Prop := pieceQuotedRow.holds Try.pinned (OpenSpec.ofChange pieceQuotedWrong)

/-- 'placketlaw11.PieceNumbers': WHATEVER THE INPUT: true; the input reads as it did. -/
def pieceNumbersSpec : ChangeSpec := { name := "pieceNumbers", fn := fun _ => fun
  | [d1, d2, d3] => { results := [.lit (.bool true)], args := [d1, d2, d3] }
  | _ => none }
def pieceNumbersRow : OpenClaim := { program := "ythdcpjmjdbldiaa", sum := "7dea5830525ed257f012b60807e929c50655a36bdd7f6549acc29d44b0fb8c27", func := "placket/placketlaw11.PieceNumbers", spec := "pieceNumbers", inPlace := ["internal/abi.NoEscape", "internal/bytealg.IndexByteString"], apart := false }
def PieceNumbersSaid : Prop := pieceNumbersRow.holds Try.pinned (OpenSpec.ofChange pieceNumbersSpec)

/-- ITS FALSE NEIGHBOUR: 'it returns false'. Refute it at one input. -/
def pieceNumbersWrong : ChangeSpec := { name := "pieceNumbers", fn := fun _ => fun
  | [d1, d2, d3] => { results := [.lit (.bool false)], args := [d1, d2, d3] }
  | _ => none }
def PieceNumbersWrongFalsely : Prop := pieceNumbersRow.holds Try.pinned (OpenSpec.ofChange pieceNumbersWrong)

/-- 'placketlaw11.PieceTexts': WHATEVER THE INPUT: true; the input reads as it did. -/
def pieceTextsSpec : ChangeSpec := { name := "pieceTexts", fn := fun _ => fun
  | [d] => { results := [.lit (.bool true)], args := [d] }
  | _ => none }
def pieceTextsRow : OpenClaim := { program := "ythdcpjmjdbldiaa", sum := "7dea5830525ed257f012b60807e929c50655a36bdd7f6549acc29d44b0fb8c27", func := "placket/placketlaw11.PieceTexts", spec := "pieceTexts", inPlace := ["internal/abi.NoEscape", "internal/bytealg.IndexByteString"], apart := false }
def PieceTextsSaid : Prop := pieceTextsRow.holds Try.pinned (OpenSpec.ofChange pieceTextsSpec)

/-- ITS FALSE NEIGHBOUR: 'it returns false'. Refute it at one input. -/
def pieceTextsWrong : ChangeSpec := { name := "pieceTexts", fn := fun _ => fun
  | [d] => { results := [.lit (.bool false)], args := [d] }
  | _ => none }
def PieceTextsWrongFalsely : Prop := pieceTextsRow.holds Try.pinned (OpenSpec.ofChange pieceTextsWrong)

/- THE SECOND FORM. 'bulk': how many values and letters a reading holds, each counted each time it is reached (what is shared counts as often as it is met; a slice's spare places count too). A statement '..UptoSaid' is the law's where the arguments, and the package variables that the reading takes, are together of bulk at most 1048576: NARROWER than '..Said'. Prove '..Said' where nothing that the law and all that it calls make is longer than what came in: it says more and counts as full. Else prove '..UptoSaid'. A law counts once. -/
mutual
def uptoBulk {H : Type} : DataW H → Nat
  | .lit (.string bytes) => bytes.length + 1
  | .lit _ => 1
  | .nil => 1
  | .ptr d => uptoBulk d + 1
  | .slice elems spare => uptoBulkAll elems + uptoBulkAll spare + 1
  | .agg parts => uptoBulkAll parts + 1
  | .iface _ d => uptoBulk d + 1
  | .map entries => uptoBulkEntries entries + 1
  | .held _ => 1
def uptoBulkAll {H : Type} : List (DataW H) → Nat
  | [] => 0
  | d :: r => uptoBulk d + uptoBulkAll r
def uptoBulkEntries {H : Type} : List (Lit × DataW H) → Nat
  | [] => 0
  | x :: r => uptoBulkEntry x + uptoBulkEntries r
def uptoBulkEntry {H : Type} : Lit × DataW H → Nat
  | (.string bytes, d) => bytes.length + uptoBulk d + 1
  | (_, d) => uptoBulk d + 1
 end
def uptoSmall : (H : Type) → List (DataW H) → Bool := fun _ ds => decide (uptoBulkAll ds ≤ 1048576)
def OpenSpec.upto (s : _root_.Go.ChangeSpec) : _root_.Go.OpenSpec := { _root_.Go.OpenSpec.ofChange s with cond := some uptoSmall }

/-- 'placketlaw11.PieceBetween', WHERE WHAT IT READS IS OF BULK AT MOST 1048576: true; the input reads as it did. -/
def pieceBetweenUptoRow : OpenClaim := { program := "ythdcpjmjdbldiaa", sum := "7dea5830525ed257f012b60807e929c50655a36bdd7f6549acc29d44b0fb8c27", func := "placket/placketlaw11.PieceBetween", spec := "pieceBetween", inPlace := ["internal/abi.NoEscape", "internal/bytealg.IndexByteString"], apart := false, narrowed := true }
def PieceBetweenUptoSaid : Prop := pieceBetweenUptoRow.holds Try.pinned (OpenSpec.upto pieceBetweenSpec)

/-- 'placketlaw11.PieceQuoted', WHERE WHAT IT READS IS OF BULK AT MOST 1048576: true; the input reads as it did. -/
def pieceQuotedUptoRow : OpenClaim := { program := "ythdcpjmjdbldiaa", sum := "7dea5830525ed257f012b60807e929c50655a36bdd7f6549acc29d44b0fb8c27", func := "placket/placketlaw11.PieceQuoted", spec := "pieceQuoted", inPlace := ["internal/abi.NoEscape", "internal/bytealg.IndexByteString"], apart := false, narrowed := true }
def PieceQuotedUptoSaid : Prop := pieceQuotedUptoRow.holds Try.pinned (OpenSpec.upto pieceQuotedSpec)

/-- 'placketlaw11.PieceNumbers', WHERE WHAT IT READS IS OF BULK AT MOST 1048576: true; the input reads as it did. -/
def pieceNumbersUptoRow : OpenClaim := { program := "ythdcpjmjdbldiaa", sum := "7dea5830525ed257f012b60807e929c50655a36bdd7f6549acc29d44b0fb8c27", func := "placket/placketlaw11.PieceNumbers", spec := "pieceNumbers", inPlace := ["internal/abi.NoEscape", "internal/bytealg.IndexByteString"], apart := false, narrowed := true }
def PieceNumbersUptoSaid : Prop := pieceNumbersUptoRow.holds Try.pinned (OpenSpec.upto pieceNumbersSpec)

/-- 'placketlaw11.PieceTexts', WHERE WHAT IT READS IS OF BULK AT MOST 1048576: true; the input reads as it did. -/
def pieceTextsUptoRow : OpenClaim := { program := "ythdcpjmjdbldiaa", sum := "7dea5830525ed257f012b60807e929c50655a36bdd7f6549acc29d44b0fb8c27", func := "placket/placketlaw11.PieceTexts", spec := "pieceTexts", inPlace := ["internal/abi.NoEscape", "internal/bytealg.IndexByteString"], apart := false, narrowed := true }
def PieceTextsUptoSaid : Prop := pieceTextsUptoRow.holds Try.pinned (OpenSpec.upto pieceTextsSpec)

end Rows
end Go.Proofs.Ythdcpjmjdbldiaa
