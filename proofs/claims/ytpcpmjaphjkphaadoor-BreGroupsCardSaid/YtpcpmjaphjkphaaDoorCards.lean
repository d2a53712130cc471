/-
  DERIVED. GIVEN WITH THE SEED: THE CARDS: each row of YtpcpmjaphjkphaaDoorRows.lean that lists a variable, with what it lists TIED to the program's text (the seventh form; the later family's looks); each row that meets fmt, with fmt's text TOLD by the authors' own Lean function (tested against real Go, not proved from fmt's source: count such statements apart). THE CARD IS WHAT COUNTS. Prove the row's statement (the work); the ties are given (YtpcpmjaphjkphaaDoorTie.lean); close each card by the builder's one call (the guide's Derived/Test/ToyasCard.lean, 'card_holds'). Laid BY PROGRAM, IN A SANDBOX (cutbox-door.mjs). By AI agents, Wed Nov 11 2026. No macro, syntax, notation, axiom, sorry.
-/
import Derived.Test.YtpcpmjaphjkphaaDoorRows
import GoSem.ClaimSeven
namespace Go.Proofs.YtpcpmjaphjkphaaDoor
namespace Rows

/-- THE TIED CARD OF 'placketlaw04.BreBounds'. -/
def breBoundsCard : Claim7 := { stood := { row := breBoundsRow, standIns := [], harness := (true, "92c6efc1a048f8c0d95dcf7d332d1106e1e4f302bd8e1a158ae722fed9353ceb"), looks := true }, kinds := [], alts := [], laidByText := true, laidKinds := [.data], laidTests := true, laidLooks := .later }
def BreBoundsCardSaid : Prop := Claim7.holds Tryd.pinned (.plain (OpenSpec.ofChange breBoundsSpec)) breBoundsCard

/-- THE TIED CARD OF 'placketlaw04.BreGroups'. -/
def breGroupsCard : Claim7 := { stood := { row := breGroupsRow, standIns := [], harness := (true, "92c6efc1a048f8c0d95dcf7d332d1106e1e4f302bd8e1a158ae722fed9353ceb"), looks := true }, kinds := [], alts := [], laidByText := true, laidKinds := [.data], laidTests := true, laidLooks := .later }
def BreGroupsCardSaid : Prop := Claim7.holds Tryd.pinned (.plain (OpenSpec.ofChange breGroupsSpec)) breGroupsCard

/-- THE TIED CARD OF 'placketlaw04.BreQuotes'. -/
def breQuotesCard : Claim7 := { stood := { row := breQuotesRow, standIns := [], harness := (true, "92c6efc1a048f8c0d95dcf7d332d1106e1e4f302bd8e1a158ae722fed9353ceb"), looks := true }, kinds := [], alts := [], laidByText := true, laidKinds := [.data], laidTests := true, laidLooks := .later }
def BreQuotesCardSaid : Prop := Claim7.holds Tryd.pinned (.plain (OpenSpec.ofChange breQuotesSpec)) breQuotesCard

/-- THE TIED CARD OF 'placketlaw04.BrePlain'. -/
def brePlainCard : Claim7 := { stood := { row := brePlainRow, standIns := [], harness := (true, "92c6efc1a048f8c0d95dcf7d332d1106e1e4f302bd8e1a158ae722fed9353ceb"), looks := true }, kinds := [], alts := [], laidByText := true, laidKinds := [.data], laidTests := true, laidLooks := .later }
def BrePlainCardSaid : Prop := Claim7.holds Tryd.pinned (.plain (OpenSpec.ofChange brePlainSpec)) brePlainCard

/-- THE SECOND FORM's CARD OF 'placketlaw04.BreBounds'. -/
def breBoundsUptoCard : Claim7 := { stood := { row := breBoundsUptoRow, standIns := [], harness := (true, "92c6efc1a048f8c0d95dcf7d332d1106e1e4f302bd8e1a158ae722fed9353ceb"), looks := true }, kinds := [], alts := [], laidByText := true, laidKinds := [.data], laidTests := true, laidLooks := .later }
def BreBoundsUptoCardSaid : Prop := Claim7.holds Tryd.pinned (.plain (OpenSpec.upto breBoundsSpec)) breBoundsUptoCard

/-- THE SECOND FORM's CARD OF 'placketlaw04.BreGroups'. -/
def breGroupsUptoCard : Claim7 := { stood := { row := breGroupsUptoRow, standIns := [], harness := (true, "92c6efc1a048f8c0d95dcf7d332d1106e1e4f302bd8e1a158ae722fed9353ceb"), looks := true }, kinds := [], alts := [], laidByText := true, laidKinds := [.data], laidTests := true, laidLooks := .later }
def BreGroupsUptoCardSaid : Prop := Claim7.holds Tryd.pinned (.plain (OpenSpec.upto breGroupsSpec)) breGroupsUptoCard

/-- THE SECOND FORM's CARD OF 'placketlaw04.BreQuotes'. -/
def breQuotesUptoCard : Claim7 := { stood := { row := breQuotesUptoRow, standIns := [], harness := (true, "92c6efc1a048f8c0d95dcf7d332d1106e1e4f302bd8e1a158ae722fed9353ceb"), looks := true }, kinds := [], alts := [], laidByText := true, laidKinds := [.data], laidTests := true, laidLooks := .later }
def BreQuotesUptoCardSaid : Prop := Claim7.holds Tryd.pinned (.plain (OpenSpec.upto breQuotesSpec)) breQuotesUptoCard

/-- THE SECOND FORM's CARD OF 'placketlaw04.BrePlain'. -/
def brePlainUptoCard : Claim7 := { stood := { row := brePlainUptoRow, standIns := [], harness := (true, "92c6efc1a048f8c0d95dcf7d332d1106e1e4f302bd8e1a158ae722fed9353ceb"), looks := true }, kinds := [], alts := [], laidByText := true, laidKinds := [.data], laidTests := true, laidLooks := .later }
def BrePlainUptoCardSaid : Prop := Claim7.holds Tryd.pinned (.plain (OpenSpec.upto brePlainSpec)) brePlainUptoCard
end Rows
end Go.Proofs.YtpcpmjaphjkphaaDoor
