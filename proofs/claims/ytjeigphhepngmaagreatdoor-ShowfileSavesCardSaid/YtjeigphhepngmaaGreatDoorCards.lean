/-
  DERIVED. GIVEN WITH THE SEED: THE CARDS: each row of YtjeigphhepngmaaGreatDoorRows.lean that lists a variable, with what it lists TIED to the program's text (the seventh form; the later family's looks); each row that meets fmt, with fmt's text TOLD by the authors' own Lean function (tested against real Go, not proved from fmt's source: count such statements apart). THE CARD IS WHAT COUNTS. Prove the row's statement (the work); the ties are given (YtjeigphhepngmaaGreatDoorTie.lean); close each card by the builder's one call (the guide's Derived/Test/ToyasCard.lean, 'card_holds'). Laid BY PROGRAM, IN A SANDBOX (cutbox-door.mjs). By AI agents, Wed Nov 11 2026. No macro, syntax, notation, axiom, sorry.
-/
import Derived.Test.YtjeigphhepngmaaGreatDoorRows
import GoSem.ClaimSeven
namespace Go.Proofs.YtjeigphhepngmaaGreatDoor
namespace Rows

/-- THE TIED CARD OF 'luminairelaw50.ShowfilePieces'. -/
def showfilePiecesCard : Claim7 := { stood := { row := showfilePiecesRow, standIns := [], harness := (true, "7a063e7bb486f884d8052b733c59906a02662c7393ce502158af20f8bfc63e3b"), looks := true }, kinds := [], alts := [], laidByText := true, laidKinds := [.data, .data, .data, .data, .sentinel, .sentinel, .pinned], laidTests := true, laidLooks := .later }
def ShowfilePiecesCardSaid : Prop := Claim7.holds Tryz.pinned (.plain (OpenSpec.ofChange showfilePiecesSpec)) showfilePiecesCard

/-- THE TIED CARD OF 'luminairelaw50.ShowfileBuilds'. -/
def showfileBuildsCard : Claim7 := { stood := { row := showfileBuildsRow, standIns := [], harness := (true, "7a063e7bb486f884d8052b733c59906a02662c7393ce502158af20f8bfc63e3b"), looks := true }, kinds := [], alts := [], laidByText := true, laidKinds := [.data, .data, .data, .data, .sentinel, .sentinel, .pinned], laidTests := true, laidLooks := .later }
def ShowfileBuildsCardSaid : Prop := Claim7.holds Tryz.pinned (.plain (OpenSpec.ofChange showfileBuildsSpec)) showfileBuildsCard

/-- THE TIED CARD OF 'luminairelaw50.ShowfileSaves'. -/
def showfileSavesCard : Claim7 := { stood := { row := showfileSavesRow, standIns := [], harness := (true, "7a063e7bb486f884d8052b733c59906a02662c7393ce502158af20f8bfc63e3b"), looks := true }, kinds := [], alts := [], laidByText := true, laidKinds := [.data, .data, .data, .data, .sentinel, .sentinel, .pinned], laidTests := true, laidLooks := .later }
def ShowfileSavesCardSaid : Prop := Claim7.holds Tryz.pinned (.plain (OpenSpec.ofChange showfileSavesSpec)) showfileSavesCard

/-- THE TIED CARD OF 'luminairelaw50.ShowfileLoads'. -/
def showfileLoadsCard : Claim7 := { stood := { row := showfileLoadsRow, standIns := [], harness := (true, "7a063e7bb486f884d8052b733c59906a02662c7393ce502158af20f8bfc63e3b"), looks := true }, kinds := [], alts := [], laidByText := true, laidKinds := [.data, .data, .data, .data, .sentinel, .sentinel, .pinned], laidTests := true, laidLooks := .later }
def ShowfileLoadsCardSaid : Prop := Claim7.holds Tryz.pinned (.plain (OpenSpec.ofChange showfileLoadsSpec)) showfileLoadsCard

/-- THE TIED CARD OF 'luminairelaw50.ShowfileReturns'. -/
def showfileReturnsCard : Claim7 := { stood := { row := showfileReturnsRow, standIns := [], harness := (true, "7a063e7bb486f884d8052b733c59906a02662c7393ce502158af20f8bfc63e3b"), looks := true }, kinds := [], alts := [], laidByText := true, laidKinds := [.data, .data, .data, .data, .sentinel, .sentinel, .pinned], laidTests := true, laidLooks := .later }
def ShowfileReturnsCardSaid : Prop := Claim7.holds Tryz.pinned (.plain (OpenSpec.ofChange showfileReturnsSpec)) showfileReturnsCard

/-- THE TIED CARD OF 'luminairelaw50.ShowfileTorn'. -/
def showfileTornCard : Claim7 := { stood := { row := showfileTornRow, standIns := [], harness := (true, "7a063e7bb486f884d8052b733c59906a02662c7393ce502158af20f8bfc63e3b"), looks := true }, kinds := [], alts := [], laidByText := true, laidKinds := [.data, .data, .data, .data, .sentinel, .sentinel, .pinned], laidTests := true, laidLooks := .later }
def ShowfileTornCardSaid : Prop := Claim7.holds Tryz.pinned (.plain (OpenSpec.ofChange showfileTornSpec)) showfileTornCard

/-- THE TIED CARD OF 'luminairelaw50.ShowfileSpoilt'. -/
def showfileSpoiltCard : Claim7 := { stood := { row := showfileSpoiltRow, standIns := [], harness := (true, "7a063e7bb486f884d8052b733c59906a02662c7393ce502158af20f8bfc63e3b"), looks := true }, kinds := [], alts := [], laidByText := true, laidKinds := [.data, .data, .data, .data, .sentinel, .sentinel, .pinned], laidTests := true, laidLooks := .later }
def ShowfileSpoiltCardSaid : Prop := Claim7.holds Tryz.pinned (.plain (OpenSpec.ofChange showfileSpoiltSpec)) showfileSpoiltCard

/-- THE TIED CARD OF 'luminairelaw50.ShowfileCues'. -/
def showfileCuesCard : Claim7 := { stood := { row := showfileCuesRow, standIns := [], harness := (true, "7a063e7bb486f884d8052b733c59906a02662c7393ce502158af20f8bfc63e3b"), looks := true }, kinds := [], alts := [], laidByText := true, laidKinds := [.data, .data, .data, .data, .sentinel, .sentinel, .pinned], laidTests := true, laidLooks := .later }
def ShowfileCuesCardSaid : Prop := Claim7.holds Tryz.pinned (.plain (OpenSpec.ofChange showfileCuesSpec)) showfileCuesCard

/-- THE TIED CARD OF 'luminairelaw50.ShowfileLacks'. -/
def showfileLacksCard : Claim7 := { stood := { row := showfileLacksRow, standIns := [], harness := (true, "7a063e7bb486f884d8052b733c59906a02662c7393ce502158af20f8bfc63e3b"), looks := true }, kinds := [], alts := [], laidByText := true, laidKinds := [.data, .data, .data, .data, .sentinel, .sentinel, .pinned], laidTests := true, laidLooks := .later }
def ShowfileLacksCardSaid : Prop := Claim7.holds Tryz.pinned (.plain (OpenSpec.ofChange showfileLacksSpec)) showfileLacksCard

/-- THE SECOND FORM's CARD OF 'luminairelaw50.ShowfilePieces'. -/
def showfilePiecesUptoCard : Claim7 := { stood := { row := showfilePiecesUptoRow, standIns := [], harness := (true, "7a063e7bb486f884d8052b733c59906a02662c7393ce502158af20f8bfc63e3b"), looks := true }, kinds := [], alts := [], laidByText := true, laidKinds := [.data, .data, .data, .data, .sentinel, .sentinel, .pinned], laidTests := true, laidLooks := .later }
def ShowfilePiecesUptoCardSaid : Prop := Claim7.holds Tryz.pinned (.plain (OpenSpec.upto showfilePiecesSpec)) showfilePiecesUptoCard

/-- THE SECOND FORM's CARD OF 'luminairelaw50.ShowfileBuilds'. -/
def showfileBuildsUptoCard : Claim7 := { stood := { row := showfileBuildsUptoRow, standIns := [], harness := (true, "7a063e7bb486f884d8052b733c59906a02662c7393ce502158af20f8bfc63e3b"), looks := true }, kinds := [], alts := [], laidByText := true, laidKinds := [.data, .data, .data, .data, .sentinel, .sentinel, .pinned], laidTests := true, laidLooks := .later }
def ShowfileBuildsUptoCardSaid : Prop := Claim7.holds Tryz.pinned (.plain (OpenSpec.upto showfileBuildsSpec)) showfileBuildsUptoCard

/-- THE SECOND FORM's CARD OF 'luminairelaw50.ShowfileSaves'. -/
def showfileSavesUptoCard : Claim7 := { stood := { row := showfileSavesUptoRow, standIns := [], harness := (true, "7a063e7bb486f884d8052b733c59906a02662c7393ce502158af20f8bfc63e3b"), looks := true }, kinds := [], alts := [], laidByText := true, laidKinds := [.data, .data, .data, .data, .sentinel, .sentinel, .pinned], laidTests := true, laidLooks := .later }
def ShowfileSavesUptoCardSaid : Prop := Claim7.holds Tryz.pinned (.plain (OpenSpec.upto showfileSavesSpec)) showfileSavesUptoCard

/-- THE SECOND FORM's CARD OF 'luminairelaw50.ShowfileLoads'. -/
def showfileLoadsUptoCard : Claim7 := { stood := { row := showfileLoadsUptoRow, standIns := [], harness := (true, "7a063e7bb486f884d8052b733c59906a02662c7393ce502158af20f8bfc63e3b"), looks := true }, kinds := [], alts := [], laidByText := true, laidKinds := [.data, .data, .data, .data, .sentinel, .sentinel, .pinned], laidTests := true, laidLooks := .later }
def ShowfileLoadsUptoCardSaid : Prop := Claim7.holds Tryz.pinned (.plain (OpenSpec.upto showfileLoadsSpec)) showfileLoadsUptoCard

/-- THE SECOND FORM's CARD OF 'luminairelaw50.ShowfileReturns'. -/
def showfileReturnsUptoCard : Claim7 := { stood := { row := showfileReturnsUptoRow, standIns := [], harness := (true, "7a063e7bb486f884d8052b733c59906a02662c7393ce502158af20f8bfc63e3b"), looks := true }, kinds := [], alts := [], laidByText := true, laidKinds := [.data, .data, .data, .data, .sentinel, .sentinel, .pinned], laidTests := true, laidLooks := .later }
def ShowfileReturnsUptoCardSaid : Prop := Claim7.holds Tryz.pinned (.plain (OpenSpec.upto showfileReturnsSpec)) showfileReturnsUptoCard

/-- THE SECOND FORM's CARD OF 'luminairelaw50.ShowfileTorn'. -/
def showfileTornUptoCard : Claim7 := { stood := { row := showfileTornUptoRow, standIns := [], harness := (true, "7a063e7bb486f884d8052b733c59906a02662c7393ce502158af20f8bfc63e3b"), looks := true }, kinds := [], alts := [], laidByText := true, laidKinds := [.data, .data, .data, .data, .sentinel, .sentinel, .pinned], laidTests := true, laidLooks := .later }
def ShowfileTornUptoCardSaid : Prop := Claim7.holds Tryz.pinned (.plain (OpenSpec.upto showfileTornSpec)) showfileTornUptoCard

/-- THE SECOND FORM's CARD OF 'luminairelaw50.ShowfileSpoilt'. -/
def showfileSpoiltUptoCard : Claim7 := { stood := { row := showfileSpoiltUptoRow, standIns := [], harness := (true, "7a063e7bb486f884d8052b733c59906a02662c7393ce502158af20f8bfc63e3b"), looks := true }, kinds := [], alts := [], laidByText := true, laidKinds := [.data, .data, .data, .data, .sentinel, .sentinel, .pinned], laidTests := true, laidLooks := .later }
def ShowfileSpoiltUptoCardSaid : Prop := Claim7.holds Tryz.pinned (.plain (OpenSpec.upto showfileSpoiltSpec)) showfileSpoiltUptoCard

/-- THE SECOND FORM's CARD OF 'luminairelaw50.ShowfileCues'. -/
def showfileCuesUptoCard : Claim7 := { stood := { row := showfileCuesUptoRow, standIns := [], harness := (true, "7a063e7bb486f884d8052b733c59906a02662c7393ce502158af20f8bfc63e3b"), looks := true }, kinds := [], alts := [], laidByText := true, laidKinds := [.data, .data, .data, .data, .sentinel, .sentinel, .pinned], laidTests := true, laidLooks := .later }
def ShowfileCuesUptoCardSaid : Prop := Claim7.holds Tryz.pinned (.plain (OpenSpec.upto showfileCuesSpec)) showfileCuesUptoCard

/-- THE SECOND FORM's CARD OF 'luminairelaw50.ShowfileLacks'. -/
def showfileLacksUptoCard : Claim7 := { stood := { row := showfileLacksUptoRow, standIns := [], harness := (true, "7a063e7bb486f884d8052b733c59906a02662c7393ce502158af20f8bfc63e3b"), looks := true }, kinds := [], alts := [], laidByText := true, laidKinds := [.data, .data, .data, .data, .sentinel, .sentinel, .pinned], laidTests := true, laidLooks := .later }
def ShowfileLacksUptoCardSaid : Prop := Claim7.holds Tryz.pinned (.plain (OpenSpec.upto showfileLacksSpec)) showfileLacksUptoCard
end Rows
end Go.Proofs.YtjeigphhepngmaaGreatDoor
