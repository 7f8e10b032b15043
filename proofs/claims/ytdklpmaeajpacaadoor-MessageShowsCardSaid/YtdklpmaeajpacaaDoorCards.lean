/-
  DERIVED. GIVEN WITH THE SEED: THE CARDS: each row of YtdklpmaeajpacaaDoorRows.lean that lists a variable, with what it lists TIED to the program's text (the seventh form; the later family's looks); each row that meets fmt, with fmt's text TOLD by the authors' own Lean function (tested against real Go, not proved from fmt's source: count such statements apart). THE CARD IS WHAT COUNTS. Prove the row's statement (the work); the ties are given (YtdklpmaeajpacaaDoorTie.lean); close each card by the builder's one call (the guide's Derived/Test/ToyasCard.lean, 'card_holds'). Laid BY PROGRAM, IN A SANDBOX (cutbox-door.mjs). By AI agents, Wed Nov 11 2026. No macro, syntax, notation, axiom, sorry.
-/
import Derived.Test.YtdklpmaeajpacaaDoorRows
import GoSem.ClaimSeven
namespace Go.Proofs.YtdklpmaeajpacaaDoor
namespace Rows

/-- THE TIED CARD OF 'luminairelaw46.MessageWrites'. -/
def messageWritesCard : Claim7 := { stood := { row := messageWritesRow, standIns := [], harness := (true, "3547766a0abe864a65e41191e4aa77b140036e75cd5021ea1854b84ce37558f6"), looks := true }, kinds := [], alts := [], laidByText := true, laidKinds := [.data, .data, .data, .data, .sentinel, .sentinel, .pinned], laidTests := true, laidLooks := .later }
def MessageWritesCardSaid : Prop := Claim7.holds Tryd.pinned (.plain (OpenSpec.ofChange messageWritesSpec)) messageWritesCard

/-- THE TIED CARD OF 'luminairelaw46.MessageReads'. -/
def messageReadsCard : Claim7 := { stood := { row := messageReadsRow, standIns := [], harness := (true, "3547766a0abe864a65e41191e4aa77b140036e75cd5021ea1854b84ce37558f6"), looks := true }, kinds := [], alts := [], laidByText := true, laidKinds := [.data, .data, .data, .data, .sentinel, .sentinel, .pinned], laidTests := true, laidLooks := .later }
def MessageReadsCardSaid : Prop := Claim7.holds Tryd.pinned (.plain (OpenSpec.ofChange messageReadsSpec)) messageReadsCard

/-- THE TIED CARD OF 'luminairelaw46.MessageNames'. -/
def messageNamesCard : Claim7 := { stood := { row := messageNamesRow, standIns := [], harness := (true, "3547766a0abe864a65e41191e4aa77b140036e75cd5021ea1854b84ce37558f6"), looks := true }, kinds := [], alts := [], laidByText := true, laidKinds := [.data, .data, .data, .data, .sentinel, .sentinel, .pinned], laidTests := true, laidLooks := .later }
def MessageNamesCardSaid : Prop := Claim7.holds Tryd.pinned (.plain (OpenSpec.ofChange messageNamesSpec)) messageNamesCard

/-- THE TIED CARD OF 'luminairelaw46.MessageSpoils'. -/
def messageSpoilsCard : Claim7 := { stood := { row := messageSpoilsRow, standIns := [], harness := (true, "3547766a0abe864a65e41191e4aa77b140036e75cd5021ea1854b84ce37558f6"), looks := true }, kinds := [], alts := [], laidByText := true, laidKinds := [.data, .data, .data, .data, .sentinel, .sentinel, .pinned], laidTests := true, laidLooks := .later }
def MessageSpoilsCardSaid : Prop := Claim7.holds Tryd.pinned (.plain (OpenSpec.ofChange messageSpoilsSpec)) messageSpoilsCard

/-- THE TIED CARD OF 'luminairelaw46.MessageMatches'. -/
def messageMatchesCard : Claim7 := { stood := { row := messageMatchesRow, standIns := [], harness := (true, "3547766a0abe864a65e41191e4aa77b140036e75cd5021ea1854b84ce37558f6"), looks := true }, kinds := [], alts := [], laidByText := true, laidKinds := [.data, .data, .data, .data, .sentinel, .sentinel, .pinned], laidTests := true, laidLooks := .later }
def MessageMatchesCardSaid : Prop := Claim7.holds Tryd.pinned (.plain (OpenSpec.ofChange messageMatchesSpec)) messageMatchesCard

/-- THE TIED CARD OF 'luminairelaw46.MessageReturns'. -/
def messageReturnsCard : Claim7 := { stood := { row := messageReturnsRow, standIns := [], harness := (true, "3547766a0abe864a65e41191e4aa77b140036e75cd5021ea1854b84ce37558f6"), looks := true }, kinds := [], alts := [], laidByText := true, laidKinds := [.data, .data, .data, .data, .sentinel, .sentinel, .pinned], laidTests := true, laidLooks := .later }
def MessageReturnsCardSaid : Prop := Claim7.holds Tryd.pinned (.plain (OpenSpec.ofChange messageReturnsSpec)) messageReturnsCard

/-- THE TIED CARD OF 'luminairelaw46.MessageSeeks'. -/
def messageSeeksCard : Claim7 := { stood := { row := messageSeeksRow, standIns := [], harness := (true, "3547766a0abe864a65e41191e4aa77b140036e75cd5021ea1854b84ce37558f6"), looks := true }, kinds := [], alts := [], laidByText := true, laidKinds := [.data, .data, .data, .data, .sentinel, .sentinel, .pinned], laidTests := true, laidLooks := .later }
def MessageSeeksCardSaid : Prop := Claim7.holds Tryd.pinned (.plain (OpenSpec.ofChange messageSeeksSpec)) messageSeeksCard

/-- THE TIED CARD OF 'luminairelaw46.MessageShows'. -/
def messageShowsCard : Claim7 := { stood := { row := messageShowsRow, standIns := [], harness := (true, "3547766a0abe864a65e41191e4aa77b140036e75cd5021ea1854b84ce37558f6"), looks := true }, kinds := [], alts := [], laidByText := true, laidKinds := [.data, .data, .data, .data, .sentinel, .sentinel, .pinned], laidTests := true, laidLooks := .later }
def MessageShowsCardSaid : Prop := Claim7.holds Tryd.pinned (.plain (OpenSpec.ofChange messageShowsSpec)) messageShowsCard

/-- THE TIED CARD OF 'luminairelaw46.MessageReplies'. -/
def messageRepliesCard : Claim7 := { stood := { row := messageRepliesRow, standIns := [], harness := (true, "3547766a0abe864a65e41191e4aa77b140036e75cd5021ea1854b84ce37558f6"), looks := true }, kinds := [], alts := [], laidByText := true, laidKinds := [.data, .data, .data, .data, .sentinel, .sentinel, .pinned], laidTests := true, laidLooks := .later }
def MessageRepliesCardSaid : Prop := Claim7.holds Tryd.pinned (.plain (OpenSpec.ofChange messageRepliesSpec)) messageRepliesCard

/-- THE TIED CARD OF 'luminairelaw46.MessageAnswers'. -/
def messageAnswersCard : Claim7 := { stood := { row := messageAnswersRow, standIns := [], harness := (true, "3547766a0abe864a65e41191e4aa77b140036e75cd5021ea1854b84ce37558f6"), looks := true }, kinds := [], alts := [], laidByText := true, laidKinds := [.data, .data, .data, .data, .sentinel, .sentinel, .pinned], laidTests := true, laidLooks := .later }
def MessageAnswersCardSaid : Prop := Claim7.holds Tryd.pinned (.plain (OpenSpec.ofChange messageAnswersSpec)) messageAnswersCard

/-- THE SECOND FORM's CARD OF 'luminairelaw46.MessageWrites'. -/
def messageWritesUptoCard : Claim7 := { stood := { row := messageWritesUptoRow, standIns := [], harness := (true, "3547766a0abe864a65e41191e4aa77b140036e75cd5021ea1854b84ce37558f6"), looks := true }, kinds := [], alts := [], laidByText := true, laidKinds := [.data, .data, .data, .data, .sentinel, .sentinel, .pinned], laidTests := true, laidLooks := .later }
def MessageWritesUptoCardSaid : Prop := Claim7.holds Tryd.pinned (.plain (OpenSpec.upto messageWritesSpec)) messageWritesUptoCard

/-- THE SECOND FORM's CARD OF 'luminairelaw46.MessageReads'. -/
def messageReadsUptoCard : Claim7 := { stood := { row := messageReadsUptoRow, standIns := [], harness := (true, "3547766a0abe864a65e41191e4aa77b140036e75cd5021ea1854b84ce37558f6"), looks := true }, kinds := [], alts := [], laidByText := true, laidKinds := [.data, .data, .data, .data, .sentinel, .sentinel, .pinned], laidTests := true, laidLooks := .later }
def MessageReadsUptoCardSaid : Prop := Claim7.holds Tryd.pinned (.plain (OpenSpec.upto messageReadsSpec)) messageReadsUptoCard

/-- THE SECOND FORM's CARD OF 'luminairelaw46.MessageNames'. -/
def messageNamesUptoCard : Claim7 := { stood := { row := messageNamesUptoRow, standIns := [], harness := (true, "3547766a0abe864a65e41191e4aa77b140036e75cd5021ea1854b84ce37558f6"), looks := true }, kinds := [], alts := [], laidByText := true, laidKinds := [.data, .data, .data, .data, .sentinel, .sentinel, .pinned], laidTests := true, laidLooks := .later }
def MessageNamesUptoCardSaid : Prop := Claim7.holds Tryd.pinned (.plain (OpenSpec.upto messageNamesSpec)) messageNamesUptoCard

/-- THE SECOND FORM's CARD OF 'luminairelaw46.MessageSpoils'. -/
def messageSpoilsUptoCard : Claim7 := { stood := { row := messageSpoilsUptoRow, standIns := [], harness := (true, "3547766a0abe864a65e41191e4aa77b140036e75cd5021ea1854b84ce37558f6"), looks := true }, kinds := [], alts := [], laidByText := true, laidKinds := [.data, .data, .data, .data, .sentinel, .sentinel, .pinned], laidTests := true, laidLooks := .later }
def MessageSpoilsUptoCardSaid : Prop := Claim7.holds Tryd.pinned (.plain (OpenSpec.upto messageSpoilsSpec)) messageSpoilsUptoCard

/-- THE SECOND FORM's CARD OF 'luminairelaw46.MessageMatches'. -/
def messageMatchesUptoCard : Claim7 := { stood := { row := messageMatchesUptoRow, standIns := [], harness := (true, "3547766a0abe864a65e41191e4aa77b140036e75cd5021ea1854b84ce37558f6"), looks := true }, kinds := [], alts := [], laidByText := true, laidKinds := [.data, .data, .data, .data, .sentinel, .sentinel, .pinned], laidTests := true, laidLooks := .later }
def MessageMatchesUptoCardSaid : Prop := Claim7.holds Tryd.pinned (.plain (OpenSpec.upto messageMatchesSpec)) messageMatchesUptoCard

/-- THE SECOND FORM's CARD OF 'luminairelaw46.MessageReturns'. -/
def messageReturnsUptoCard : Claim7 := { stood := { row := messageReturnsUptoRow, standIns := [], harness := (true, "3547766a0abe864a65e41191e4aa77b140036e75cd5021ea1854b84ce37558f6"), looks := true }, kinds := [], alts := [], laidByText := true, laidKinds := [.data, .data, .data, .data, .sentinel, .sentinel, .pinned], laidTests := true, laidLooks := .later }
def MessageReturnsUptoCardSaid : Prop := Claim7.holds Tryd.pinned (.plain (OpenSpec.upto messageReturnsSpec)) messageReturnsUptoCard

/-- THE SECOND FORM's CARD OF 'luminairelaw46.MessageSeeks'. -/
def messageSeeksUptoCard : Claim7 := { stood := { row := messageSeeksUptoRow, standIns := [], harness := (true, "3547766a0abe864a65e41191e4aa77b140036e75cd5021ea1854b84ce37558f6"), looks := true }, kinds := [], alts := [], laidByText := true, laidKinds := [.data, .data, .data, .data, .sentinel, .sentinel, .pinned], laidTests := true, laidLooks := .later }
def MessageSeeksUptoCardSaid : Prop := Claim7.holds Tryd.pinned (.plain (OpenSpec.upto messageSeeksSpec)) messageSeeksUptoCard

/-- THE SECOND FORM's CARD OF 'luminairelaw46.MessageShows'. -/
def messageShowsUptoCard : Claim7 := { stood := { row := messageShowsUptoRow, standIns := [], harness := (true, "3547766a0abe864a65e41191e4aa77b140036e75cd5021ea1854b84ce37558f6"), looks := true }, kinds := [], alts := [], laidByText := true, laidKinds := [.data, .data, .data, .data, .sentinel, .sentinel, .pinned], laidTests := true, laidLooks := .later }
def MessageShowsUptoCardSaid : Prop := Claim7.holds Tryd.pinned (.plain (OpenSpec.upto messageShowsSpec)) messageShowsUptoCard

/-- THE SECOND FORM's CARD OF 'luminairelaw46.MessageReplies'. -/
def messageRepliesUptoCard : Claim7 := { stood := { row := messageRepliesUptoRow, standIns := [], harness := (true, "3547766a0abe864a65e41191e4aa77b140036e75cd5021ea1854b84ce37558f6"), looks := true }, kinds := [], alts := [], laidByText := true, laidKinds := [.data, .data, .data, .data, .sentinel, .sentinel, .pinned], laidTests := true, laidLooks := .later }
def MessageRepliesUptoCardSaid : Prop := Claim7.holds Tryd.pinned (.plain (OpenSpec.upto messageRepliesSpec)) messageRepliesUptoCard

/-- THE SECOND FORM's CARD OF 'luminairelaw46.MessageAnswers'. -/
def messageAnswersUptoCard : Claim7 := { stood := { row := messageAnswersUptoRow, standIns := [], harness := (true, "3547766a0abe864a65e41191e4aa77b140036e75cd5021ea1854b84ce37558f6"), looks := true }, kinds := [], alts := [], laidByText := true, laidKinds := [.data, .data, .data, .data, .sentinel, .sentinel, .pinned], laidTests := true, laidLooks := .later }
def MessageAnswersUptoCardSaid : Prop := Claim7.holds Tryd.pinned (.plain (OpenSpec.upto messageAnswersSpec)) messageAnswersUptoCard
end Rows
end Go.Proofs.YtdklpmaeajpacaaDoor
