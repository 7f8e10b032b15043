/-
  DERIVED. GIVEN WITH THE SEED: THE CARDS: each row of YtnkgpfcoidilnaaDoorRows.lean that lists a variable, with what it lists TIED to the program's text (the seventh form; the later family's looks); each row that meets fmt, with fmt's text TOLD by the authors' own Lean function (tested against real Go, not proved from fmt's source: count such statements apart). THE CARD IS WHAT COUNTS. Prove the row's statement (the work); the ties are given (YtnkgpfcoidilnaaDoorTie.lean); close each card by the builder's one call (the guide's Derived/Test/ToyasCard.lean, 'card_holds'). Laid BY PROGRAM, IN A SANDBOX (cutbox-door.mjs). By AI agents, Wed Nov 11 2026. No macro, syntax, notation, axiom, sorry.
-/
import Derived.Test.YtnkgpfcoidilnaaDoorRows
import GoSem.ClaimSeven
namespace Go.Proofs.YtnkgpfcoidilnaaDoor
namespace Rows

/-- THE TIED CARD OF 'luminairelaw05.NumberChecks'. -/
def numberChecksCard : Claim7 := { stood := { row := numberChecksRow, standIns := [], harness := (true, "d740bd8d494b039bb60f8a73fc4dbf9b99980816fd108cbd97251efeaec15d00"), looks := true }, kinds := [], alts := [], laidByText := true, laidKinds := [.data, .data, .data, .data, .sentinel, .sentinel, .pinned], laidTests := true, laidLooks := .later }
def NumberChecksCardSaid : Prop := Claim7.holds Tryd.pinned (.plain (OpenSpec.ofChange numberChecksSpec)) numberChecksCard

/-- THE TIED CARD OF 'luminairelaw05.NumberNames'. -/
def numberNamesCard : Claim7 := { stood := { row := numberNamesRow, standIns := [], harness := (true, "d740bd8d494b039bb60f8a73fc4dbf9b99980816fd108cbd97251efeaec15d00"), looks := true }, kinds := [], alts := [], laidByText := true, laidKinds := [.data, .data, .data, .data, .sentinel, .sentinel, .pinned], laidTests := true, laidLooks := .later }
def NumberNamesCardSaid : Prop := Claim7.holds Tryd.pinned (.plain (OpenSpec.ofChange numberNamesSpec)) numberNamesCard

/-- THE TIED CARD OF 'luminairelaw05.NumberOrders'. -/
def numberOrdersCard : Claim7 := { stood := { row := numberOrdersRow, standIns := [], harness := (true, "d740bd8d494b039bb60f8a73fc4dbf9b99980816fd108cbd97251efeaec15d00"), looks := true }, kinds := [], alts := [], laidByText := true, laidKinds := [.data, .data, .data, .data, .sentinel, .sentinel, .pinned], laidTests := true, laidLooks := .later }
def NumberOrdersCardSaid : Prop := Claim7.holds Tryd.pinned (.plain (OpenSpec.ofChange numberOrdersSpec)) numberOrdersCard

/-- THE TIED CARD OF 'luminairelaw05.NumberBetween'. -/
def numberBetweenCard : Claim7 := { stood := { row := numberBetweenRow, standIns := [], harness := (true, "d740bd8d494b039bb60f8a73fc4dbf9b99980816fd108cbd97251efeaec15d00"), looks := true }, kinds := [], alts := [], laidByText := true, laidKinds := [.data, .data, .data, .data, .sentinel, .sentinel, .pinned], laidTests := true, laidLooks := .later }
def NumberBetweenCardSaid : Prop := Claim7.holds Tryd.pinned (.plain (OpenSpec.ofChange numberBetweenSpec)) numberBetweenCard

/-- THE TIED CARD OF 'luminairelaw05.NumberReturns'. -/
def numberReturnsCard : Claim7 := { stood := { row := numberReturnsRow, standIns := [], harness := (true, "d740bd8d494b039bb60f8a73fc4dbf9b99980816fd108cbd97251efeaec15d00"), looks := true }, kinds := [], alts := [], laidByText := true, laidKinds := [.data, .data, .data, .data, .sentinel, .sentinel, .pinned], laidTests := true, laidLooks := .later }
def NumberReturnsCardSaid : Prop := Claim7.holds Tryd.pinned (.plain (OpenSpec.ofChange numberReturnsSpec)) numberReturnsCard

/-- THE TIED CARD OF 'luminairelaw05.NumberFits'. -/
def numberFitsCard : Claim7 := { stood := { row := numberFitsRow, standIns := [], harness := (true, "d740bd8d494b039bb60f8a73fc4dbf9b99980816fd108cbd97251efeaec15d00"), looks := true }, kinds := [], alts := [], laidByText := true, laidKinds := [.data, .data, .data, .data, .sentinel, .sentinel, .pinned], laidTests := true, laidLooks := .later }
def NumberFitsCardSaid : Prop := Claim7.holds Tryd.pinned (.plain (OpenSpec.ofChange numberFitsSpec)) numberFitsCard

/-- THE TIED CARD OF 'luminairelaw05.NumberAscends'. -/
def numberAscendsCard : Claim7 := { stood := { row := numberAscendsRow, standIns := [], harness := (true, "d740bd8d494b039bb60f8a73fc4dbf9b99980816fd108cbd97251efeaec15d00"), looks := true }, kinds := [], alts := [], laidByText := true, laidKinds := [.data, .data, .data, .data, .sentinel, .sentinel, .pinned], laidTests := true, laidLooks := .later }
def NumberAscendsCardSaid : Prop := Claim7.holds Tryd.pinned (.plain (OpenSpec.ofChange numberAscendsSpec)) numberAscendsCard

/-- THE TIED CARD OF 'luminairelaw05.NumberSorts'. -/
def numberSortsCard : Claim7 := { stood := { row := numberSortsRow, standIns := [], harness := (true, "d740bd8d494b039bb60f8a73fc4dbf9b99980816fd108cbd97251efeaec15d00"), looks := true }, kinds := [], alts := [], laidByText := true, laidKinds := [.data, .data, .data, .data, .sentinel, .sentinel, .pinned], laidTests := true, laidLooks := .later }
def NumberSortsCardSaid : Prop := Claim7.holds Tryd.pinned (.plain (OpenSpec.ofChange numberSortsSpec)) numberSortsCard

/-- THE SECOND FORM's CARD OF 'luminairelaw05.NumberChecks'. -/
def numberChecksUptoCard : Claim7 := { stood := { row := numberChecksUptoRow, standIns := [], harness := (true, "d740bd8d494b039bb60f8a73fc4dbf9b99980816fd108cbd97251efeaec15d00"), looks := true }, kinds := [], alts := [], laidByText := true, laidKinds := [.data, .data, .data, .data, .sentinel, .sentinel, .pinned], laidTests := true, laidLooks := .later }
def NumberChecksUptoCardSaid : Prop := Claim7.holds Tryd.pinned (.plain (OpenSpec.upto numberChecksSpec)) numberChecksUptoCard

/-- THE SECOND FORM's CARD OF 'luminairelaw05.NumberNames'. -/
def numberNamesUptoCard : Claim7 := { stood := { row := numberNamesUptoRow, standIns := [], harness := (true, "d740bd8d494b039bb60f8a73fc4dbf9b99980816fd108cbd97251efeaec15d00"), looks := true }, kinds := [], alts := [], laidByText := true, laidKinds := [.data, .data, .data, .data, .sentinel, .sentinel, .pinned], laidTests := true, laidLooks := .later }
def NumberNamesUptoCardSaid : Prop := Claim7.holds Tryd.pinned (.plain (OpenSpec.upto numberNamesSpec)) numberNamesUptoCard

/-- THE SECOND FORM's CARD OF 'luminairelaw05.NumberOrders'. -/
def numberOrdersUptoCard : Claim7 := { stood := { row := numberOrdersUptoRow, standIns := [], harness := (true, "d740bd8d494b039bb60f8a73fc4dbf9b99980816fd108cbd97251efeaec15d00"), looks := true }, kinds := [], alts := [], laidByText := true, laidKinds := [.data, .data, .data, .data, .sentinel, .sentinel, .pinned], laidTests := true, laidLooks := .later }
def NumberOrdersUptoCardSaid : Prop := Claim7.holds Tryd.pinned (.plain (OpenSpec.upto numberOrdersSpec)) numberOrdersUptoCard

/-- THE SECOND FORM's CARD OF 'luminairelaw05.NumberBetween'. -/
def numberBetweenUptoCard : Claim7 := { stood := { row := numberBetweenUptoRow, standIns := [], harness := (true, "d740bd8d494b039bb60f8a73fc4dbf9b99980816fd108cbd97251efeaec15d00"), looks := true }, kinds := [], alts := [], laidByText := true, laidKinds := [.data, .data, .data, .data, .sentinel, .sentinel, .pinned], laidTests := true, laidLooks := .later }
def NumberBetweenUptoCardSaid : Prop := Claim7.holds Tryd.pinned (.plain (OpenSpec.upto numberBetweenSpec)) numberBetweenUptoCard

/-- THE SECOND FORM's CARD OF 'luminairelaw05.NumberReturns'. -/
def numberReturnsUptoCard : Claim7 := { stood := { row := numberReturnsUptoRow, standIns := [], harness := (true, "d740bd8d494b039bb60f8a73fc4dbf9b99980816fd108cbd97251efeaec15d00"), looks := true }, kinds := [], alts := [], laidByText := true, laidKinds := [.data, .data, .data, .data, .sentinel, .sentinel, .pinned], laidTests := true, laidLooks := .later }
def NumberReturnsUptoCardSaid : Prop := Claim7.holds Tryd.pinned (.plain (OpenSpec.upto numberReturnsSpec)) numberReturnsUptoCard

/-- THE SECOND FORM's CARD OF 'luminairelaw05.NumberFits'. -/
def numberFitsUptoCard : Claim7 := { stood := { row := numberFitsUptoRow, standIns := [], harness := (true, "d740bd8d494b039bb60f8a73fc4dbf9b99980816fd108cbd97251efeaec15d00"), looks := true }, kinds := [], alts := [], laidByText := true, laidKinds := [.data, .data, .data, .data, .sentinel, .sentinel, .pinned], laidTests := true, laidLooks := .later }
def NumberFitsUptoCardSaid : Prop := Claim7.holds Tryd.pinned (.plain (OpenSpec.upto numberFitsSpec)) numberFitsUptoCard

/-- THE SECOND FORM's CARD OF 'luminairelaw05.NumberAscends'. -/
def numberAscendsUptoCard : Claim7 := { stood := { row := numberAscendsUptoRow, standIns := [], harness := (true, "d740bd8d494b039bb60f8a73fc4dbf9b99980816fd108cbd97251efeaec15d00"), looks := true }, kinds := [], alts := [], laidByText := true, laidKinds := [.data, .data, .data, .data, .sentinel, .sentinel, .pinned], laidTests := true, laidLooks := .later }
def NumberAscendsUptoCardSaid : Prop := Claim7.holds Tryd.pinned (.plain (OpenSpec.upto numberAscendsSpec)) numberAscendsUptoCard

/-- THE SECOND FORM's CARD OF 'luminairelaw05.NumberSorts'. -/
def numberSortsUptoCard : Claim7 := { stood := { row := numberSortsUptoRow, standIns := [], harness := (true, "d740bd8d494b039bb60f8a73fc4dbf9b99980816fd108cbd97251efeaec15d00"), looks := true }, kinds := [], alts := [], laidByText := true, laidKinds := [.data, .data, .data, .data, .sentinel, .sentinel, .pinned], laidTests := true, laidLooks := .later }
def NumberSortsUptoCardSaid : Prop := Claim7.holds Tryd.pinned (.plain (OpenSpec.upto numberSortsSpec)) numberSortsUptoCard
end Rows
end Go.Proofs.YtnkgpfcoidilnaaDoor
