/-
  DERIVED. GIVEN WITH THE SEED: THE CARDS: each row of YtepeomphikhbkaaGreatDoorRows.lean that lists a variable, with what it lists TIED to the program's text (the seventh form; the later family's looks); each row that meets fmt, with fmt's text TOLD by the authors' own Lean function (tested against real Go, not proved from fmt's source: count such statements apart). THE CARD IS WHAT COUNTS. Prove the row's statement (the work); the ties are given (YtepeomphikhbkaaGreatDoorTie.lean); close each card by the builder's one call (the guide's Derived/Test/ToyasCard.lean, 'card_holds'). Laid BY PROGRAM, IN A SANDBOX (cutbox-door.mjs). By AI agents, Wed Nov 11 2026. No macro, syntax, notation, axiom, sorry.
-/
import Derived.Test.YtepeomphikhbkaaGreatDoorRows
import GoSem.ClaimSeven
namespace Go.Proofs.YtepeomphikhbkaaGreatDoor
namespace Rows

/-- THE TIED CARD OF 'placketlaw05.EreParses'. -/
def ereParsesCard : Claim7 := { stood := { row := ereParsesRow, standIns := [], harness := (true, "352a66dcf7516b1e43491394f76761d2dacab0a1f0526b9589d5ab8013d4b054"), looks := true }, kinds := [], alts := [], laidByText := true, laidKinds := [.data], laidTests := true, laidLooks := .later }
def EreParsesCardSaid : Prop := Claim7.holds Tryz.pinned (.plain (OpenSpec.ofChange ereParsesSpec)) ereParsesCard

/-- THE TIED CARD OF 'placketlaw05.EreTurned'. -/
def ereTurnedCard : Claim7 := { stood := { row := ereTurnedRow, standIns := [], harness := (true, "352a66dcf7516b1e43491394f76761d2dacab0a1f0526b9589d5ab8013d4b054"), looks := true }, kinds := [], alts := [], laidByText := true, laidKinds := [.data], laidTests := true, laidLooks := .later }
def EreTurnedCardSaid : Prop := Claim7.holds Tryz.pinned (.plain (OpenSpec.ofChange ereTurnedSpec)) ereTurnedCard

/-- THE SECOND FORM's CARD OF 'placketlaw05.EreParses'. -/
def ereParsesUptoCard : Claim7 := { stood := { row := ereParsesUptoRow, standIns := [], harness := (true, "352a66dcf7516b1e43491394f76761d2dacab0a1f0526b9589d5ab8013d4b054"), looks := true }, kinds := [], alts := [], laidByText := true, laidKinds := [.data], laidTests := true, laidLooks := .later }
def EreParsesUptoCardSaid : Prop := Claim7.holds Tryz.pinned (.plain (OpenSpec.upto ereParsesSpec)) ereParsesUptoCard

/-- THE SECOND FORM's CARD OF 'placketlaw05.EreTurned'. -/
def ereTurnedUptoCard : Claim7 := { stood := { row := ereTurnedUptoRow, standIns := [], harness := (true, "352a66dcf7516b1e43491394f76761d2dacab0a1f0526b9589d5ab8013d4b054"), looks := true }, kinds := [], alts := [], laidByText := true, laidKinds := [.data], laidTests := true, laidLooks := .later }
def EreTurnedUptoCardSaid : Prop := Claim7.holds Tryz.pinned (.plain (OpenSpec.upto ereTurnedSpec)) ereTurnedUptoCard
end Rows
end Go.Proofs.YtepeomphikhbkaaGreatDoor
