/-
  DERIVED. GIVEN WITH THE SEED: THE CARDS: each row of YtkfddjopbocpkaaGreatDoorRows.lean that lists a variable, with what it lists TIED to the program's text (the seventh form; the later family's looks); each row that meets fmt, with fmt's text TOLD by the authors' own Lean function (tested against real Go, not proved from fmt's source: count such statements apart). THE CARD IS WHAT COUNTS. Prove the row's statement (the work); the ties are given (YtkfddjopbocpkaaGreatDoorTie.lean); close each card by the builder's one call (the guide's Derived/Test/ToyasCard.lean, 'card_holds'). Laid BY PROGRAM, IN A SANDBOX (cutbox-door.mjs). By AI agents, Wed Nov 11 2026. No macro, syntax, notation, axiom, sorry.
-/
import Derived.Test.YtkfddjopbocpkaaGreatDoorRows
import GoSem.ClaimSeven
namespace Go.Proofs.YtkfddjopbocpkaaGreatDoor
namespace Rows

/-- THE TIED CARD OF 'placketlaw13.CmdTables'. -/
def cmdTablesCard : Claim7 := { stood := { row := cmdTablesRow, standIns := [], harness := (true, "65edadb8f21b9356f0710f8d3396054f37adb3b68bc39329646cad0e90262672"), looks := true }, kinds := [], alts := [], laidByText := true, laidKinds := [.data, .data, .pinned], laidTests := true, laidLooks := .later }
def CmdTablesCardSaid : Prop := Claim7.holds Tryz.pinned (.plain (OpenSpec.ofChange cmdTablesSpec)) cmdTablesCard

/-- THE TIED CARD OF 'placketlaw13.CmdReplacements'. -/
def cmdReplacementsCard : Claim7 := { stood := { row := cmdReplacementsRow, standIns := [], harness := (true, "65edadb8f21b9356f0710f8d3396054f37adb3b68bc39329646cad0e90262672"), looks := true }, kinds := [], alts := [], laidByText := true, laidKinds := [.data, .data, .pinned], laidTests := true, laidLooks := .later }
def CmdReplacementsCardSaid : Prop := Claim7.holds Tryz.pinned (.plain (OpenSpec.ofChange cmdReplacementsSpec)) cmdReplacementsCard

/-- THE TIED CARD OF 'placketlaw13.CmdGuards'. -/
def cmdGuardsCard : Claim7 := { stood := { row := cmdGuardsRow, standIns := [], harness := (true, "65edadb8f21b9356f0710f8d3396054f37adb3b68bc39329646cad0e90262672"), looks := true }, kinds := [], alts := [], laidByText := true, laidKinds := [.data, .data, .pinned], laidTests := true, laidLooks := .later }
def CmdGuardsCardSaid : Prop := Claim7.holds Tryz.pinned (.plain (OpenSpec.ofChange cmdGuardsSpec)) cmdGuardsCard

/-- THE TIED CARD OF 'placketlaw14.ScriptSpaces'. -/
def scriptSpacesCard : Claim7 := { stood := { row := scriptSpacesRow, standIns := [], harness := (true, "65edadb8f21b9356f0710f8d3396054f37adb3b68bc39329646cad0e90262672"), looks := true }, kinds := [], alts := [], laidByText := true, laidKinds := [.data, .data, .pinned], laidTests := true, laidLooks := .later }
def ScriptSpacesCardSaid : Prop := Claim7.holds Tryz.pinned (.plain (OpenSpec.ofChange scriptSpacesSpec)) scriptSpacesCard

/-- THE TIED CARD OF 'placketlaw14.ScriptQuiet'. -/
def scriptQuietCard : Claim7 := { stood := { row := scriptQuietRow, standIns := [], harness := (true, "65edadb8f21b9356f0710f8d3396054f37adb3b68bc39329646cad0e90262672"), looks := true }, kinds := [], alts := [], laidByText := true, laidKinds := [.data, .data, .pinned], laidTests := true, laidLooks := .later }
def ScriptQuietCardSaid : Prop := Claim7.holds Tryz.pinned (.plain (OpenSpec.ofChange scriptQuietSpec)) scriptQuietCard

/-- THE TIED CARD OF 'placketlaw14.ScriptTwo'. -/
def scriptTwoCard : Claim7 := { stood := { row := scriptTwoRow, standIns := [], harness := (true, "65edadb8f21b9356f0710f8d3396054f37adb3b68bc39329646cad0e90262672"), looks := true }, kinds := [], alts := [], laidByText := true, laidKinds := [.data, .data, .pinned], laidTests := true, laidLooks := .later }
def ScriptTwoCardSaid : Prop := Claim7.holds Tryz.pinned (.plain (OpenSpec.ofChange scriptTwoSpec)) scriptTwoCard

/-- THE TIED CARD OF 'placketlaw15.PrintAddresses'. -/
def printAddressesCard : Claim7 := { stood := { row := printAddressesRow, standIns := [], harness := (true, "65edadb8f21b9356f0710f8d3396054f37adb3b68bc39329646cad0e90262672"), looks := true }, kinds := [], alts := [], laidByText := true, laidKinds := [.data, .data, .data, .data, .pinned], laidTests := true, laidLooks := .later }
def PrintAddressesCardSaid : Prop := Claim7.holds Tryz.pinned (.plain (OpenSpec.ofChange printAddressesSpec)) printAddressesCard

/-- THE TIED CARD OF 'placketlaw15.PrintParts'. -/
def printPartsCard : Claim7 := { stood := { row := printPartsRow, standIns := [], harness := (true, "65edadb8f21b9356f0710f8d3396054f37adb3b68bc39329646cad0e90262672"), looks := true }, kinds := [], alts := [], laidByText := true, laidKinds := [.data, .data, .data, .data, .pinned], laidTests := true, laidLooks := .later }
def PrintPartsCardSaid : Prop := Claim7.holds Tryz.pinned (.plain (OpenSpec.ofChange printPartsSpec)) printPartsCard

/-- THE TIED CARD OF 'placketlaw15.PrintQuiet'. -/
def printQuietCard : Claim7 := { stood := { row := printQuietRow, standIns := [], harness := (true, "65edadb8f21b9356f0710f8d3396054f37adb3b68bc39329646cad0e90262672"), looks := true }, kinds := [], alts := [], laidByText := true, laidKinds := [.data, .data, .data, .data, .pinned], laidTests := true, laidLooks := .later }
def PrintQuietCardSaid : Prop := Claim7.holds Tryz.pinned (.plain (OpenSpec.ofChange printQuietSpec)) printQuietCard

/-- THE TIED CARD OF 'placketlaw15.PrintBack'. -/
def printBackCard : Claim7 := { stood := { row := printBackRow, standIns := [], harness := (true, "65edadb8f21b9356f0710f8d3396054f37adb3b68bc39329646cad0e90262672"), looks := true }, kinds := [], alts := [], laidByText := true, laidKinds := [.data, .data, .data, .data, .pinned], laidTests := true, laidLooks := .later }
def PrintBackCardSaid : Prop := Claim7.holds Tryz.pinned (.plain (OpenSpec.ofChange printBackSpec)) printBackCard

/-- THE SECOND FORM's CARD OF 'placketlaw13.CmdTables'. -/
def cmdTablesUptoCard : Claim7 := { stood := { row := cmdTablesUptoRow, standIns := [], harness := (true, "65edadb8f21b9356f0710f8d3396054f37adb3b68bc39329646cad0e90262672"), looks := true }, kinds := [], alts := [], laidByText := true, laidKinds := [.data, .data, .pinned], laidTests := true, laidLooks := .later }
def CmdTablesUptoCardSaid : Prop := Claim7.holds Tryz.pinned (.plain (OpenSpec.upto cmdTablesSpec)) cmdTablesUptoCard

/-- THE SECOND FORM's CARD OF 'placketlaw13.CmdReplacements'. -/
def cmdReplacementsUptoCard : Claim7 := { stood := { row := cmdReplacementsUptoRow, standIns := [], harness := (true, "65edadb8f21b9356f0710f8d3396054f37adb3b68bc39329646cad0e90262672"), looks := true }, kinds := [], alts := [], laidByText := true, laidKinds := [.data, .data, .pinned], laidTests := true, laidLooks := .later }
def CmdReplacementsUptoCardSaid : Prop := Claim7.holds Tryz.pinned (.plain (OpenSpec.upto cmdReplacementsSpec)) cmdReplacementsUptoCard

/-- THE SECOND FORM's CARD OF 'placketlaw13.CmdGuards'. -/
def cmdGuardsUptoCard : Claim7 := { stood := { row := cmdGuardsUptoRow, standIns := [], harness := (true, "65edadb8f21b9356f0710f8d3396054f37adb3b68bc39329646cad0e90262672"), looks := true }, kinds := [], alts := [], laidByText := true, laidKinds := [.data, .data, .pinned], laidTests := true, laidLooks := .later }
def CmdGuardsUptoCardSaid : Prop := Claim7.holds Tryz.pinned (.plain (OpenSpec.upto cmdGuardsSpec)) cmdGuardsUptoCard

/-- THE SECOND FORM's CARD OF 'placketlaw14.ScriptSpaces'. -/
def scriptSpacesUptoCard : Claim7 := { stood := { row := scriptSpacesUptoRow, standIns := [], harness := (true, "65edadb8f21b9356f0710f8d3396054f37adb3b68bc39329646cad0e90262672"), looks := true }, kinds := [], alts := [], laidByText := true, laidKinds := [.data, .data, .pinned], laidTests := true, laidLooks := .later }
def ScriptSpacesUptoCardSaid : Prop := Claim7.holds Tryz.pinned (.plain (OpenSpec.upto scriptSpacesSpec)) scriptSpacesUptoCard

/-- THE SECOND FORM's CARD OF 'placketlaw14.ScriptQuiet'. -/
def scriptQuietUptoCard : Claim7 := { stood := { row := scriptQuietUptoRow, standIns := [], harness := (true, "65edadb8f21b9356f0710f8d3396054f37adb3b68bc39329646cad0e90262672"), looks := true }, kinds := [], alts := [], laidByText := true, laidKinds := [.data, .data, .pinned], laidTests := true, laidLooks := .later }
def ScriptQuietUptoCardSaid : Prop := Claim7.holds Tryz.pinned (.plain (OpenSpec.upto scriptQuietSpec)) scriptQuietUptoCard

/-- THE SECOND FORM's CARD OF 'placketlaw14.ScriptTwo'. -/
def scriptTwoUptoCard : Claim7 := { stood := { row := scriptTwoUptoRow, standIns := [], harness := (true, "65edadb8f21b9356f0710f8d3396054f37adb3b68bc39329646cad0e90262672"), looks := true }, kinds := [], alts := [], laidByText := true, laidKinds := [.data, .data, .pinned], laidTests := true, laidLooks := .later }
def ScriptTwoUptoCardSaid : Prop := Claim7.holds Tryz.pinned (.plain (OpenSpec.upto scriptTwoSpec)) scriptTwoUptoCard

/-- THE SECOND FORM's CARD OF 'placketlaw15.PrintAddresses'. -/
def printAddressesUptoCard : Claim7 := { stood := { row := printAddressesUptoRow, standIns := [], harness := (true, "65edadb8f21b9356f0710f8d3396054f37adb3b68bc39329646cad0e90262672"), looks := true }, kinds := [], alts := [], laidByText := true, laidKinds := [.data, .data, .data, .data, .pinned], laidTests := true, laidLooks := .later }
def PrintAddressesUptoCardSaid : Prop := Claim7.holds Tryz.pinned (.plain (OpenSpec.upto printAddressesSpec)) printAddressesUptoCard

/-- THE SECOND FORM's CARD OF 'placketlaw15.PrintParts'. -/
def printPartsUptoCard : Claim7 := { stood := { row := printPartsUptoRow, standIns := [], harness := (true, "65edadb8f21b9356f0710f8d3396054f37adb3b68bc39329646cad0e90262672"), looks := true }, kinds := [], alts := [], laidByText := true, laidKinds := [.data, .data, .data, .data, .pinned], laidTests := true, laidLooks := .later }
def PrintPartsUptoCardSaid : Prop := Claim7.holds Tryz.pinned (.plain (OpenSpec.upto printPartsSpec)) printPartsUptoCard

/-- THE SECOND FORM's CARD OF 'placketlaw15.PrintQuiet'. -/
def printQuietUptoCard : Claim7 := { stood := { row := printQuietUptoRow, standIns := [], harness := (true, "65edadb8f21b9356f0710f8d3396054f37adb3b68bc39329646cad0e90262672"), looks := true }, kinds := [], alts := [], laidByText := true, laidKinds := [.data, .data, .data, .data, .pinned], laidTests := true, laidLooks := .later }
def PrintQuietUptoCardSaid : Prop := Claim7.holds Tryz.pinned (.plain (OpenSpec.upto printQuietSpec)) printQuietUptoCard

/-- THE SECOND FORM's CARD OF 'placketlaw15.PrintBack'. -/
def printBackUptoCard : Claim7 := { stood := { row := printBackUptoRow, standIns := [], harness := (true, "65edadb8f21b9356f0710f8d3396054f37adb3b68bc39329646cad0e90262672"), looks := true }, kinds := [], alts := [], laidByText := true, laidKinds := [.data, .data, .data, .data, .pinned], laidTests := true, laidLooks := .later }
def PrintBackUptoCardSaid : Prop := Claim7.holds Tryz.pinned (.plain (OpenSpec.upto printBackSpec)) printBackUptoCard
end Rows
end Go.Proofs.YtkfddjopbocpkaaGreatDoor
