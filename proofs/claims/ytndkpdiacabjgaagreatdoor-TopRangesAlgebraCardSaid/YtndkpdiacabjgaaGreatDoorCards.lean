/-
  DERIVED. GIVEN WITH THE SEED: THE CARDS: each row of YtndkpdiacabjgaaGreatDoorRows.lean that lists a variable, with what it lists TIED to the program's text (the seventh form; the later family's looks); each row that meets fmt, with fmt's text TOLD by the authors' own Lean function (tested against real Go, not proved from fmt's source: count such statements apart). THE CARD IS WHAT COUNTS. Prove the row's statement (the work); the ties are given (YtndkpdiacabjgaaGreatDoorTie.lean); close each card by the builder's one call (the guide's Derived/Test/ToyasCard.lean, 'card_holds'). Laid BY PROGRAM, IN A SANDBOX (cutbox-door.mjs). By AI agents, Wed Nov 11 2026. No macro, syntax, notation, axiom, sorry.
-/
import Derived.Test.YtndkpdiacabjgaaGreatDoorRows
import GoSem.ClaimSeven
namespace Go.Proofs.YtndkpdiacabjgaaGreatDoor
namespace Rows

/-- THE TIED CARD OF 'luminairetop.TopNumbersDense'. -/
def topNumbersDenseCard : Claim7 := { stood := { row := topNumbersDenseRow, standIns := [], harness := (true, "194318d935be05be9cf27e39cf9be55481e39d03d1b5138e5ec2c4572db7ab2d"), looks := true }, kinds := [], alts := [], laidByText := true, laidKinds := [.data, .data, .data, .data, .sentinel, .sentinel, .pinned], laidTests := true, laidLooks := .later }
def TopNumbersDenseCardSaid : Prop := Claim7.holds Tryz.pinned (.plain (OpenSpec.ofChange topNumbersDenseSpec)) topNumbersDenseCard

/-- THE TIED CARD OF 'luminairetop.TopRangesTexts'. -/
def topRangesTextsCard : Claim7 := { stood := { row := topRangesTextsRow, standIns := [], harness := (true, "194318d935be05be9cf27e39cf9be55481e39d03d1b5138e5ec2c4572db7ab2d"), looks := true }, kinds := [], alts := [], laidByText := true, laidKinds := [.data, .data, .data, .data, .sentinel, .sentinel, .pinned], laidTests := true, laidLooks := .later }
def TopRangesTextsCardSaid : Prop := Claim7.holds Tryz.pinned (.plain (OpenSpec.ofChange topRangesTextsSpec)) topRangesTextsCard

/-- THE TIED CARD OF 'luminairetop.TopRangesAlgebra'. -/
def topRangesAlgebraCard : Claim7 := { stood := { row := topRangesAlgebraRow, standIns := [], harness := (true, "194318d935be05be9cf27e39cf9be55481e39d03d1b5138e5ec2c4572db7ab2d"), looks := true }, kinds := [], alts := [], laidByText := true, laidKinds := [.data, .data, .data, .data, .sentinel, .sentinel, .pinned], laidTests := true, laidLooks := .later }
def TopRangesAlgebraCardSaid : Prop := Claim7.holds Tryz.pinned (.plain (OpenSpec.ofChange topRangesAlgebraSpec)) topRangesAlgebraCard

/-- THE SECOND FORM's CARD OF 'luminairetop.TopNumbersDense'. -/
def topNumbersDenseUptoCard : Claim7 := { stood := { row := topNumbersDenseUptoRow, standIns := [], harness := (true, "194318d935be05be9cf27e39cf9be55481e39d03d1b5138e5ec2c4572db7ab2d"), looks := true }, kinds := [], alts := [], laidByText := true, laidKinds := [.data, .data, .data, .data, .sentinel, .sentinel, .pinned], laidTests := true, laidLooks := .later }
def TopNumbersDenseUptoCardSaid : Prop := Claim7.holds Tryz.pinned (.plain (OpenSpec.upto topNumbersDenseSpec)) topNumbersDenseUptoCard

/-- THE SECOND FORM's CARD OF 'luminairetop.TopRangesTexts'. -/
def topRangesTextsUptoCard : Claim7 := { stood := { row := topRangesTextsUptoRow, standIns := [], harness := (true, "194318d935be05be9cf27e39cf9be55481e39d03d1b5138e5ec2c4572db7ab2d"), looks := true }, kinds := [], alts := [], laidByText := true, laidKinds := [.data, .data, .data, .data, .sentinel, .sentinel, .pinned], laidTests := true, laidLooks := .later }
def TopRangesTextsUptoCardSaid : Prop := Claim7.holds Tryz.pinned (.plain (OpenSpec.upto topRangesTextsSpec)) topRangesTextsUptoCard

/-- THE SECOND FORM's CARD OF 'luminairetop.TopRangesAlgebra'. -/
def topRangesAlgebraUptoCard : Claim7 := { stood := { row := topRangesAlgebraUptoRow, standIns := [], harness := (true, "194318d935be05be9cf27e39cf9be55481e39d03d1b5138e5ec2c4572db7ab2d"), looks := true }, kinds := [], alts := [], laidByText := true, laidKinds := [.data, .data, .data, .data, .sentinel, .sentinel, .pinned], laidTests := true, laidLooks := .later }
def TopRangesAlgebraUptoCardSaid : Prop := Claim7.holds Tryz.pinned (.plain (OpenSpec.upto topRangesAlgebraSpec)) topRangesAlgebraUptoCard
end Rows
end Go.Proofs.YtndkpdiacabjgaaGreatDoor
