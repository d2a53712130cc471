/-
  DERIVED. GIVEN WITH THE SEED: THE CARDS: each row of YthdcpjmjdbldiaaDoorRows.lean that lists a variable, with what it lists TIED to the program's text (the seventh form; the later family's looks); each row that meets fmt, with fmt's text TOLD by the authors' own Lean function (tested against real Go, not proved from fmt's source: count such statements apart). THE CARD IS WHAT COUNTS. Prove the row's statement (the work); the ties are given (YthdcpjmjdbldiaaDoorTie.lean); close each card by the builder's one call (the guide's Derived/Test/ToyasCard.lean, 'card_holds'). Laid BY PROGRAM, IN A SANDBOX (cutbox-door.mjs). By AI agents, Wed Nov 11 2026. No macro, syntax, notation, axiom, sorry.
-/
import Derived.Test.YthdcpjmjdbldiaaDoorRows
import GoSem.ClaimSeven
namespace Go.Proofs.YthdcpjmjdbldiaaDoor
namespace Rows

/-- THE TIED CARD OF 'placketlaw11.PieceTakes'. -/
def pieceTakesCard : Claim7 := { stood := { row := pieceTakesRow, standIns := [], harness := (true, "b448581c66d4765b3f85da2d4f545598a7ea470000c128a58963fafb0438221d"), looks := false }, kinds := [], alts := [], laidByText := true, laidKinds := [.data, .pinned], laidTests := true, laidLooks := .later }
def PieceTakesCardSaid : Prop := Claim7.holds Tryd.pinned (.plain (OpenSpec.ofChange pieceTakesSpec)) pieceTakesCard

/-- THE SECOND FORM's CARD OF 'placketlaw11.PieceTakes'. -/
def pieceTakesUptoCard : Claim7 := { stood := { row := pieceTakesUptoRow, standIns := [], harness := (true, "b448581c66d4765b3f85da2d4f545598a7ea470000c128a58963fafb0438221d"), looks := false }, kinds := [], alts := [], laidByText := true, laidKinds := [.data, .pinned], laidTests := true, laidLooks := .later }
def PieceTakesUptoCardSaid : Prop := Claim7.holds Tryd.pinned (.plain (OpenSpec.upto pieceTakesSpec)) pieceTakesUptoCard
end Rows
end Go.Proofs.YthdcpjmjdbldiaaDoor
