/-
  DERIVED. GIVEN WITH THE SEED: THE CARDS: each row of YthkleolkkgichaaDoorRows.lean that lists a variable, with what it lists TIED to the program's text (the seventh form; the later family's looks); each row that meets fmt, with fmt's text TOLD by the authors' own Lean function (tested against real Go, not proved from fmt's source: count such statements apart). THE CARD IS WHAT COUNTS. Prove the row's statement (the work); the ties are given (YthkleolkkgichaaDoorTie.lean); close each card by the builder's one call (the guide's Derived/Test/ToyasCard.lean, 'card_holds'). Laid BY PROGRAM, IN A SANDBOX (cutbox-door.mjs). By AI agents, Wed Nov 11 2026. No macro, syntax, notation, axiom, sorry.
-/
import Derived.Test.YthkleolkkgichaaDoorRows
import GoSem.ClaimSeven
namespace Go.Proofs.YthkleolkkgichaaDoor
namespace Rows

/-- THE TIED CARD OF 'placketlaw01.OctetSpans'. -/
def octetSpansCard : Claim7 := { stood := { row := octetSpansRow, standIns := [], harness := (true, "f0a1c506c33b0bc0fc8ce573fb07fba4a06a2ee657cb7ed63ef0b941a024eed7"), looks := false }, kinds := [], alts := [], laidByText := true, laidKinds := [.data], laidTests := true, laidLooks := .later }
def OctetSpansCardSaid : Prop := Claim7.holds Tryd.pinned (.plain (OpenSpec.ofChange octetSpansSpec)) octetSpansCard

/-- THE SECOND FORM's CARD OF 'placketlaw01.OctetSpans'. -/
def octetSpansUptoCard : Claim7 := { stood := { row := octetSpansUptoRow, standIns := [], harness := (true, "f0a1c506c33b0bc0fc8ce573fb07fba4a06a2ee657cb7ed63ef0b941a024eed7"), looks := false }, kinds := [], alts := [], laidByText := true, laidKinds := [.data], laidTests := true, laidLooks := .later }
def OctetSpansUptoCardSaid : Prop := Claim7.holds Tryd.pinned (.plain (OpenSpec.upto octetSpansSpec)) octetSpansUptoCard
end Rows
end Go.Proofs.YthkleolkkgichaaDoor
