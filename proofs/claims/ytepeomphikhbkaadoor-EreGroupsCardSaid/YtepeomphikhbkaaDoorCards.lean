/-
  DERIVED. GIVEN WITH THE SEED: THE CARDS: each row of YtepeomphikhbkaaDoorRows.lean that lists a variable, with what it lists TIED to the program's text (the seventh form; the later family's looks); each row that meets fmt, with fmt's text TOLD by the authors' own Lean function (tested against real Go, not proved from fmt's source: count such statements apart). THE CARD IS WHAT COUNTS. Prove the row's statement (the work); the ties are given (YtepeomphikhbkaaDoorTie.lean); close each card by the builder's one call (the guide's Derived/Test/ToyasCard.lean, 'card_holds'). Laid BY PROGRAM, IN A SANDBOX (cutbox-door.mjs). By AI agents, Wed Nov 11 2026. No macro, syntax, notation, axiom, sorry.
-/
import Derived.Test.YtepeomphikhbkaaDoorRows
import GoSem.ClaimSeven
namespace Go.Proofs.YtepeomphikhbkaaDoor
namespace Rows

/-- THE TIED CARD OF 'placketlaw05.EreGroups'. -/
def ereGroupsCard : Claim7 := { stood := { row := ereGroupsRow, standIns := [], harness := (true, "f921b559a7ce2a2bf31f41802c455de450f1bd3b16c097ed296296df6a64b504"), looks := true }, kinds := [], alts := [], laidByText := true, laidKinds := [.data], laidTests := true, laidLooks := .later }
def EreGroupsCardSaid : Prop := Claim7.holds Tryd.pinned (.plain (OpenSpec.ofChange ereGroupsSpec)) ereGroupsCard

/-- THE TIED CARD OF 'placketlaw05.EreQuotes'. -/
def ereQuotesCard : Claim7 := { stood := { row := ereQuotesRow, standIns := [], harness := (true, "f921b559a7ce2a2bf31f41802c455de450f1bd3b16c097ed296296df6a64b504"), looks := true }, kinds := [], alts := [], laidByText := true, laidKinds := [.data], laidTests := true, laidLooks := .later }
def EreQuotesCardSaid : Prop := Claim7.holds Tryd.pinned (.plain (OpenSpec.ofChange ereQuotesSpec)) ereQuotesCard

/-- THE SECOND FORM's CARD OF 'placketlaw05.EreGroups'. -/
def ereGroupsUptoCard : Claim7 := { stood := { row := ereGroupsUptoRow, standIns := [], harness := (true, "f921b559a7ce2a2bf31f41802c455de450f1bd3b16c097ed296296df6a64b504"), looks := true }, kinds := [], alts := [], laidByText := true, laidKinds := [.data], laidTests := true, laidLooks := .later }
def EreGroupsUptoCardSaid : Prop := Claim7.holds Tryd.pinned (.plain (OpenSpec.upto ereGroupsSpec)) ereGroupsUptoCard

/-- THE SECOND FORM's CARD OF 'placketlaw05.EreQuotes'. -/
def ereQuotesUptoCard : Claim7 := { stood := { row := ereQuotesUptoRow, standIns := [], harness := (true, "f921b559a7ce2a2bf31f41802c455de450f1bd3b16c097ed296296df6a64b504"), looks := true }, kinds := [], alts := [], laidByText := true, laidKinds := [.data], laidTests := true, laidLooks := .later }
def EreQuotesUptoCardSaid : Prop := Claim7.holds Tryd.pinned (.plain (OpenSpec.upto ereQuotesSpec)) ereQuotesUptoCard
end Rows
end Go.Proofs.YtepeomphikhbkaaDoor
