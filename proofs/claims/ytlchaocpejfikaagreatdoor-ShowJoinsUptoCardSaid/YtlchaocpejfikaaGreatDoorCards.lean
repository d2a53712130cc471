/-
  DERIVED. GIVEN WITH THE SEED: THE CARDS: each row of YtlchaocpejfikaaGreatDoorRows.lean that lists a variable, with what it lists TIED to the program's text (the seventh form; the later family's looks); each row that meets fmt, with fmt's text TOLD by the authors' own Lean function (tested against real Go, not proved from fmt's source: count such statements apart). THE CARD IS WHAT COUNTS. Prove the row's statement (the work); the ties are given (YtlchaocpejfikaaGreatDoorTie.lean); close each card by the builder's one call (the guide's Derived/Test/ToyasCard.lean, 'card_holds'). Laid BY PROGRAM, IN A SANDBOX (cutbox-door.mjs). By AI agents, Wed Nov 11 2026. No macro, syntax, notation, axiom, sorry.
-/
import Derived.Test.YtlchaocpejfikaaGreatDoorRows
import GoSem.ClaimSeven
namespace Go.Proofs.YtlchaocpejfikaaGreatDoor
namespace Rows

/-- THE TIED CARD OF 'placketlaw06.ShowSets'. -/
def showSetsCard : Claim7 := { stood := { row := showSetsRow, standIns := [], harness := (true, "512f522efe14624eef21fb5fe6a31d732ec6fae3a4606981bc1f5eae3d01af80"), looks := true }, kinds := [], alts := [], laidByText := true, laidKinds := [.data, .data, .data], laidTests := true, laidLooks := .later }
def ShowSetsCardSaid : Prop := Claim7.holds Tryz.pinned (.plain (OpenSpec.ofChange showSetsSpec)) showSetsCard

/-- THE TIED CARD OF 'placketlaw06.ShowTrees'. -/
def showTreesCard : Claim7 := { stood := { row := showTreesRow, standIns := [], harness := (true, "512f522efe14624eef21fb5fe6a31d732ec6fae3a4606981bc1f5eae3d01af80"), looks := true }, kinds := [], alts := [], laidByText := true, laidKinds := [.data, .data, .data], laidTests := true, laidLooks := .later }
def ShowTreesCardSaid : Prop := Claim7.holds Tryz.pinned (.plain (OpenSpec.ofChange showTreesSpec)) showTreesCard

/-- THE TIED CARD OF 'placketlaw06.ShowJoins'. -/
def showJoinsCard : Claim7 := { stood := { row := showJoinsRow, standIns := [], harness := (true, "512f522efe14624eef21fb5fe6a31d732ec6fae3a4606981bc1f5eae3d01af80"), looks := true }, kinds := [], alts := [], laidByText := true, laidKinds := [.data, .data, .data], laidTests := true, laidLooks := .later }
def ShowJoinsCardSaid : Prop := Claim7.holds Tryz.pinned (.plain (OpenSpec.ofChange showJoinsSpec)) showJoinsCard

/-- THE TIED CARD OF 'placketlaw06.ShowSetBack'. -/
def showSetBackCard : Claim7 := { stood := { row := showSetBackRow, standIns := [], harness := (true, "512f522efe14624eef21fb5fe6a31d732ec6fae3a4606981bc1f5eae3d01af80"), looks := true }, kinds := [], alts := [], laidByText := true, laidKinds := [.data, .data, .data], laidTests := true, laidLooks := .later }
def ShowSetBackCardSaid : Prop := Claim7.holds Tryz.pinned (.plain (OpenSpec.ofChange showSetBackSpec)) showSetBackCard

/-- THE TIED CARD OF 'placketlaw06.ShowBack'. -/
def showBackCard : Claim7 := { stood := { row := showBackRow, standIns := [], harness := (true, "512f522efe14624eef21fb5fe6a31d732ec6fae3a4606981bc1f5eae3d01af80"), looks := true }, kinds := [], alts := [], laidByText := true, laidKinds := [.data, .data, .data], laidTests := true, laidLooks := .later }
def ShowBackCardSaid : Prop := Claim7.holds Tryz.pinned (.plain (OpenSpec.ofChange showBackSpec)) showBackCard

/-- THE SECOND FORM's CARD OF 'placketlaw06.ShowSets'. -/
def showSetsUptoCard : Claim7 := { stood := { row := showSetsUptoRow, standIns := [], harness := (true, "512f522efe14624eef21fb5fe6a31d732ec6fae3a4606981bc1f5eae3d01af80"), looks := true }, kinds := [], alts := [], laidByText := true, laidKinds := [.data, .data, .data], laidTests := true, laidLooks := .later }
def ShowSetsUptoCardSaid : Prop := Claim7.holds Tryz.pinned (.plain (OpenSpec.upto showSetsSpec)) showSetsUptoCard

/-- THE SECOND FORM's CARD OF 'placketlaw06.ShowTrees'. -/
def showTreesUptoCard : Claim7 := { stood := { row := showTreesUptoRow, standIns := [], harness := (true, "512f522efe14624eef21fb5fe6a31d732ec6fae3a4606981bc1f5eae3d01af80"), looks := true }, kinds := [], alts := [], laidByText := true, laidKinds := [.data, .data, .data], laidTests := true, laidLooks := .later }
def ShowTreesUptoCardSaid : Prop := Claim7.holds Tryz.pinned (.plain (OpenSpec.upto showTreesSpec)) showTreesUptoCard

/-- THE SECOND FORM's CARD OF 'placketlaw06.ShowJoins'. -/
def showJoinsUptoCard : Claim7 := { stood := { row := showJoinsUptoRow, standIns := [], harness := (true, "512f522efe14624eef21fb5fe6a31d732ec6fae3a4606981bc1f5eae3d01af80"), looks := true }, kinds := [], alts := [], laidByText := true, laidKinds := [.data, .data, .data], laidTests := true, laidLooks := .later }
def ShowJoinsUptoCardSaid : Prop := Claim7.holds Tryz.pinned (.plain (OpenSpec.upto showJoinsSpec)) showJoinsUptoCard

/-- THE SECOND FORM's CARD OF 'placketlaw06.ShowSetBack'. -/
def showSetBackUptoCard : Claim7 := { stood := { row := showSetBackUptoRow, standIns := [], harness := (true, "512f522efe14624eef21fb5fe6a31d732ec6fae3a4606981bc1f5eae3d01af80"), looks := true }, kinds := [], alts := [], laidByText := true, laidKinds := [.data, .data, .data], laidTests := true, laidLooks := .later }
def ShowSetBackUptoCardSaid : Prop := Claim7.holds Tryz.pinned (.plain (OpenSpec.upto showSetBackSpec)) showSetBackUptoCard

/-- THE SECOND FORM's CARD OF 'placketlaw06.ShowBack'. -/
def showBackUptoCard : Claim7 := { stood := { row := showBackUptoRow, standIns := [], harness := (true, "512f522efe14624eef21fb5fe6a31d732ec6fae3a4606981bc1f5eae3d01af80"), looks := true }, kinds := [], alts := [], laidByText := true, laidKinds := [.data, .data, .data], laidTests := true, laidLooks := .later }
def ShowBackUptoCardSaid : Prop := Claim7.holds Tryz.pinned (.plain (OpenSpec.upto showBackSpec)) showBackUptoCard
end Rows
end Go.Proofs.YtlchaocpejfikaaGreatDoor
