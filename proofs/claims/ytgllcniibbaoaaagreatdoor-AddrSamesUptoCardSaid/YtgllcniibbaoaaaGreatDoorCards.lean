/-
  DERIVED. GIVEN WITH THE SEED: THE CARDS: each row of YtgllcniibbaoaaaGreatDoorRows.lean that lists a variable, with what it lists TIED to the program's text (the seventh form; the later family's looks); each row that meets fmt, with fmt's text TOLD by the authors' own Lean function (tested against real Go, not proved from fmt's source: count such statements apart). THE CARD IS WHAT COUNTS. Prove the row's statement (the work); the ties are given (YtgllcniibbaoaaaGreatDoorTie.lean); close each card by the builder's one call (the guide's Derived/Test/ToyasCard.lean, 'card_holds'). Laid BY PROGRAM, IN A SANDBOX (cutbox-door.mjs). By AI agents, Wed Nov 11 2026. No macro, syntax, notation, axiom, sorry.
-/
import Derived.Test.YtgllcniibbaoaaaGreatDoorRows
import GoSem.ClaimSeven
namespace Go.Proofs.YtgllcniibbaoaaaGreatDoor
namespace Rows

/-- THE TIED CARD OF 'placketlaw04.BreParses'. -/
def breParsesCard : Claim7 := { stood := { row := breParsesRow, standIns := [], harness := (true, "bf094b0144f2df37e2e3982ac626df991db3a4a95c61e6364fee6e418eac2269"), looks := true }, kinds := [], alts := [], laidByText := true, laidKinds := [.data], laidTests := true, laidLooks := .later }
def BreParsesCardSaid : Prop := Claim7.holds Tryz.pinned (.plain (OpenSpec.ofChange breParsesSpec)) breParsesCard

/-- THE TIED CARD OF 'placketlaw05.EreParses'. -/
def ereParsesCard : Claim7 := { stood := { row := ereParsesRow, standIns := [], harness := (true, "bf094b0144f2df37e2e3982ac626df991db3a4a95c61e6364fee6e418eac2269"), looks := true }, kinds := [], alts := [], laidByText := true, laidKinds := [.data], laidTests := true, laidLooks := .later }
def EreParsesCardSaid : Prop := Claim7.holds Tryz.pinned (.plain (OpenSpec.ofChange ereParsesSpec)) ereParsesCard

/-- THE TIED CARD OF 'placketlaw12.AddrGuards'. -/
def addrGuardsCard : Claim7 := { stood := { row := addrGuardsRow, standIns := [], harness := (true, "bf094b0144f2df37e2e3982ac626df991db3a4a95c61e6364fee6e418eac2269"), looks := true }, kinds := [], alts := [], laidByText := true, laidKinds := [.data, .data, .pinned], laidTests := true, laidLooks := .later }
def AddrGuardsCardSaid : Prop := Claim7.holds Tryz.pinned (.plain (OpenSpec.ofChange addrGuardsSpec)) addrGuardsCard

/-- THE TIED CARD OF 'placketlaw12.AddrParses'. -/
def addrParsesCard : Claim7 := { stood := { row := addrParsesRow, standIns := [], harness := (true, "bf094b0144f2df37e2e3982ac626df991db3a4a95c61e6364fee6e418eac2269"), looks := true }, kinds := [], alts := [], laidByText := true, laidKinds := [.data, .data, .pinned], laidTests := true, laidLooks := .later }
def AddrParsesCardSaid : Prop := Claim7.holds Tryz.pinned (.plain (OpenSpec.ofChange addrParsesSpec)) addrParsesCard

/-- THE TIED CARD OF 'placketlaw12.AddrSames'. -/
def addrSamesCard : Claim7 := { stood := { row := addrSamesRow, standIns := [], harness := (true, "bf094b0144f2df37e2e3982ac626df991db3a4a95c61e6364fee6e418eac2269"), looks := true }, kinds := [], alts := [], laidByText := true, laidKinds := [.data, .data, .pinned], laidTests := true, laidLooks := .later }
def AddrSamesCardSaid : Prop := Claim7.holds Tryz.pinned (.plain (OpenSpec.ofChange addrSamesSpec)) addrSamesCard

/-- THE SECOND FORM's CARD OF 'placketlaw04.BreParses'. -/
def breParsesUptoCard : Claim7 := { stood := { row := breParsesUptoRow, standIns := [], harness := (true, "bf094b0144f2df37e2e3982ac626df991db3a4a95c61e6364fee6e418eac2269"), looks := true }, kinds := [], alts := [], laidByText := true, laidKinds := [.data], laidTests := true, laidLooks := .later }
def BreParsesUptoCardSaid : Prop := Claim7.holds Tryz.pinned (.plain (OpenSpec.upto breParsesSpec)) breParsesUptoCard

/-- THE SECOND FORM's CARD OF 'placketlaw05.EreParses'. -/
def ereParsesUptoCard : Claim7 := { stood := { row := ereParsesUptoRow, standIns := [], harness := (true, "bf094b0144f2df37e2e3982ac626df991db3a4a95c61e6364fee6e418eac2269"), looks := true }, kinds := [], alts := [], laidByText := true, laidKinds := [.data], laidTests := true, laidLooks := .later }
def EreParsesUptoCardSaid : Prop := Claim7.holds Tryz.pinned (.plain (OpenSpec.upto ereParsesSpec)) ereParsesUptoCard

/-- THE SECOND FORM's CARD OF 'placketlaw12.AddrGuards'. -/
def addrGuardsUptoCard : Claim7 := { stood := { row := addrGuardsUptoRow, standIns := [], harness := (true, "bf094b0144f2df37e2e3982ac626df991db3a4a95c61e6364fee6e418eac2269"), looks := true }, kinds := [], alts := [], laidByText := true, laidKinds := [.data, .data, .pinned], laidTests := true, laidLooks := .later }
def AddrGuardsUptoCardSaid : Prop := Claim7.holds Tryz.pinned (.plain (OpenSpec.upto addrGuardsSpec)) addrGuardsUptoCard

/-- THE SECOND FORM's CARD OF 'placketlaw12.AddrParses'. -/
def addrParsesUptoCard : Claim7 := { stood := { row := addrParsesUptoRow, standIns := [], harness := (true, "bf094b0144f2df37e2e3982ac626df991db3a4a95c61e6364fee6e418eac2269"), looks := true }, kinds := [], alts := [], laidByText := true, laidKinds := [.data, .data, .pinned], laidTests := true, laidLooks := .later }
def AddrParsesUptoCardSaid : Prop := Claim7.holds Tryz.pinned (.plain (OpenSpec.upto addrParsesSpec)) addrParsesUptoCard

/-- THE SECOND FORM's CARD OF 'placketlaw12.AddrSames'. -/
def addrSamesUptoCard : Claim7 := { stood := { row := addrSamesUptoRow, standIns := [], harness := (true, "bf094b0144f2df37e2e3982ac626df991db3a4a95c61e6364fee6e418eac2269"), looks := true }, kinds := [], alts := [], laidByText := true, laidKinds := [.data, .data, .pinned], laidTests := true, laidLooks := .later }
def AddrSamesUptoCardSaid : Prop := Claim7.holds Tryz.pinned (.plain (OpenSpec.upto addrSamesSpec)) addrSamesUptoCard
end Rows
end Go.Proofs.YtgllcniibbaoaaaGreatDoor
