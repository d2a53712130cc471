/-
  DERIVED. GIVEN WITH THE SEED: THE CARDS: each row of YtmoiiidfhkfdgaaDoorRows.lean that lists a variable, with what it lists TIED to the program's text (the seventh form; the later family's looks); each row that meets fmt, with fmt's text TOLD by the authors' own Lean function (tested against real Go, not proved from fmt's source: count such statements apart). THE CARD IS WHAT COUNTS. Prove the row's statement (the work); the ties are given (YtmoiiidfhkfdgaaDoorTie.lean); close each card by the builder's one call (the guide's Derived/Test/ToyasCard.lean, 'card_holds'). Laid BY PROGRAM, IN A SANDBOX (cutbox-door.mjs). By AI agents, Wed Nov 11 2026. No macro, syntax, notation, axiom, sorry.
-/
import Derived.Test.YtmoiiidfhkfdgaaDoorRows
import GoSem.ClaimSeven
namespace Go.Proofs.YtmoiiidfhkfdgaaDoor
namespace Rows

/-- THE TIED CARD OF 'placketlaw02.BracketParses'. -/
def bracketParsesCard : Claim7 := { stood := { row := bracketParsesRow, standIns := [], harness := (true, "0023580ec19d8648f9bb29571fb59bfdd3a48a9926a95b913591a5d846c5a9a7"), looks := false }, kinds := [], alts := [], laidByText := true, laidKinds := [.data], laidTests := true, laidLooks := .later }
def BracketParsesCardSaid : Prop := Claim7.holds Tryd.pinned (.plain (OpenSpec.ofChange bracketParsesSpec)) bracketParsesCard

/-- THE TIED CARD OF 'placketlaw02.BracketNots'. -/
def bracketNotsCard : Claim7 := { stood := { row := bracketNotsRow, standIns := [], harness := (true, "0023580ec19d8648f9bb29571fb59bfdd3a48a9926a95b913591a5d846c5a9a7"), looks := false }, kinds := [], alts := [], laidByText := true, laidKinds := [.data], laidTests := true, laidLooks := .later }
def BracketNotsCardSaid : Prop := Claim7.holds Tryd.pinned (.plain (OpenSpec.ofChange bracketNotsSpec)) bracketNotsCard

/-- THE TIED CARD OF 'placketlaw02.BracketBehind'. -/
def bracketBehindCard : Claim7 := { stood := { row := bracketBehindRow, standIns := [], harness := (true, "0023580ec19d8648f9bb29571fb59bfdd3a48a9926a95b913591a5d846c5a9a7"), looks := false }, kinds := [], alts := [], laidByText := true, laidKinds := [.data], laidTests := true, laidLooks := .later }
def BracketBehindCardSaid : Prop := Claim7.holds Tryd.pinned (.plain (OpenSpec.ofChange bracketBehindSpec)) bracketBehindCard

/-- THE TIED CARD OF 'placketlaw02.BracketItems'. -/
def bracketItemsCard : Claim7 := { stood := { row := bracketItemsRow, standIns := [], harness := (true, "0023580ec19d8648f9bb29571fb59bfdd3a48a9926a95b913591a5d846c5a9a7"), looks := false }, kinds := [], alts := [], laidByText := true, laidKinds := [.data], laidTests := true, laidLooks := .later }
def BracketItemsCardSaid : Prop := Claim7.holds Tryd.pinned (.plain (OpenSpec.ofChange bracketItemsSpec)) bracketItemsCard

/-- THE TIED CARD OF 'placketlaw02.BracketRanges'. -/
def bracketRangesCard : Claim7 := { stood := { row := bracketRangesRow, standIns := [], harness := (true, "0023580ec19d8648f9bb29571fb59bfdd3a48a9926a95b913591a5d846c5a9a7"), looks := false }, kinds := [], alts := [], laidByText := true, laidKinds := [.data], laidTests := true, laidLooks := .later }
def BracketRangesCardSaid : Prop := Claim7.holds Tryd.pinned (.plain (OpenSpec.ofChange bracketRangesSpec)) bracketRangesCard

/-- THE SECOND FORM's CARD OF 'placketlaw02.BracketParses'. -/
def bracketParsesUptoCard : Claim7 := { stood := { row := bracketParsesUptoRow, standIns := [], harness := (true, "0023580ec19d8648f9bb29571fb59bfdd3a48a9926a95b913591a5d846c5a9a7"), looks := false }, kinds := [], alts := [], laidByText := true, laidKinds := [.data], laidTests := true, laidLooks := .later }
def BracketParsesUptoCardSaid : Prop := Claim7.holds Tryd.pinned (.plain (OpenSpec.upto bracketParsesSpec)) bracketParsesUptoCard

/-- THE SECOND FORM's CARD OF 'placketlaw02.BracketNots'. -/
def bracketNotsUptoCard : Claim7 := { stood := { row := bracketNotsUptoRow, standIns := [], harness := (true, "0023580ec19d8648f9bb29571fb59bfdd3a48a9926a95b913591a5d846c5a9a7"), looks := false }, kinds := [], alts := [], laidByText := true, laidKinds := [.data], laidTests := true, laidLooks := .later }
def BracketNotsUptoCardSaid : Prop := Claim7.holds Tryd.pinned (.plain (OpenSpec.upto bracketNotsSpec)) bracketNotsUptoCard

/-- THE SECOND FORM's CARD OF 'placketlaw02.BracketBehind'. -/
def bracketBehindUptoCard : Claim7 := { stood := { row := bracketBehindUptoRow, standIns := [], harness := (true, "0023580ec19d8648f9bb29571fb59bfdd3a48a9926a95b913591a5d846c5a9a7"), looks := false }, kinds := [], alts := [], laidByText := true, laidKinds := [.data], laidTests := true, laidLooks := .later }
def BracketBehindUptoCardSaid : Prop := Claim7.holds Tryd.pinned (.plain (OpenSpec.upto bracketBehindSpec)) bracketBehindUptoCard

/-- THE SECOND FORM's CARD OF 'placketlaw02.BracketItems'. -/
def bracketItemsUptoCard : Claim7 := { stood := { row := bracketItemsUptoRow, standIns := [], harness := (true, "0023580ec19d8648f9bb29571fb59bfdd3a48a9926a95b913591a5d846c5a9a7"), looks := false }, kinds := [], alts := [], laidByText := true, laidKinds := [.data], laidTests := true, laidLooks := .later }
def BracketItemsUptoCardSaid : Prop := Claim7.holds Tryd.pinned (.plain (OpenSpec.upto bracketItemsSpec)) bracketItemsUptoCard

/-- THE SECOND FORM's CARD OF 'placketlaw02.BracketRanges'. -/
def bracketRangesUptoCard : Claim7 := { stood := { row := bracketRangesUptoRow, standIns := [], harness := (true, "0023580ec19d8648f9bb29571fb59bfdd3a48a9926a95b913591a5d846c5a9a7"), looks := false }, kinds := [], alts := [], laidByText := true, laidKinds := [.data], laidTests := true, laidLooks := .later }
def BracketRangesUptoCardSaid : Prop := Claim7.holds Tryd.pinned (.plain (OpenSpec.upto bracketRangesSpec)) bracketRangesUptoCard
end Rows
end Go.Proofs.YtmoiiidfhkfdgaaDoor
