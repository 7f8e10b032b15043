/-
  DERIVED. GIVEN WITH THE SEED: THE CARDS: each row of YtndkpdiacabjgaaDoorRows.lean that lists a variable, with what it lists TIED to the program's text (the seventh form; the later family's looks); each row that meets fmt, with fmt's text TOLD by the authors' own Lean function (tested against real Go, not proved from fmt's source: count such statements apart). THE CARD IS WHAT COUNTS. Prove the row's statement (the work); the ties are given (YtndkpdiacabjgaaDoorTie.lean); close each card by the builder's one call (the guide's Derived/Test/ToyasCard.lean, 'card_holds'). Laid BY PROGRAM, IN A SANDBOX (cutbox-door.mjs). By AI agents, Wed Nov 11 2026. No macro, syntax, notation, axiom, sorry.
-/
import Derived.Test.YtndkpdiacabjgaaDoorRows
import GoSem.ClaimSeven
namespace Go.Proofs.YtndkpdiacabjgaaDoor
namespace Rows

/-- THE TIED CARD OF 'luminairetop.TopNumbersAppended'. -/
def topNumbersAppendedCard : Claim7 := { stood := { row := topNumbersAppendedRow, standIns := [], harness := (true, "785b92bacf32bd5be5968e28c200b67e2694e685d91edaff3ce93d525fd6b495"), looks := true }, kinds := [], alts := [], laidByText := true, laidKinds := [.data, .data, .data, .data, .sentinel, .sentinel, .pinned], laidTests := true, laidLooks := .later }
def TopNumbersAppendedCardSaid : Prop := Claim7.holds Tryd.pinned (.plain (OpenSpec.ofChange topNumbersAppendedSpec)) topNumbersAppendedCard

/-- THE SECOND FORM's CARD OF 'luminairetop.TopNumbersAppended'. -/
def topNumbersAppendedUptoCard : Claim7 := { stood := { row := topNumbersAppendedUptoRow, standIns := [], harness := (true, "785b92bacf32bd5be5968e28c200b67e2694e685d91edaff3ce93d525fd6b495"), looks := true }, kinds := [], alts := [], laidByText := true, laidKinds := [.data, .data, .data, .data, .sentinel, .sentinel, .pinned], laidTests := true, laidLooks := .later }
def TopNumbersAppendedUptoCardSaid : Prop := Claim7.holds Tryd.pinned (.plain (OpenSpec.upto topNumbersAppendedSpec)) topNumbersAppendedUptoCard
end Rows
end Go.Proofs.YtndkpdiacabjgaaDoor
