/-
  No cell of these rows narrows 'for every input' (looked for: loops, veiled, ifaces, maps, wideKeys, modest, calm, conditions, laid).
  DERIVED. THE GIVEN ROWS OF THIS SEAT. 7 by the template 'for every input the law returns true; each argument reads behind the call as it read before'; 0 by the template 'total and deterministic' (their statements: YtnckalgljfplhaaTotals.lean).
  GIVEN WITH THE SEED: the statements are not yours to turn. If you find one false, say at which input.
  Laid BY PROGRAM, IN A SANDBOX (cutbox-rows.mjs): the forced cells as the released guide's own fill.sh prints them over the translation 6b2c68f0958ea71f… (all of the seat's roots in one cut). By AI agents, Wed Nov 11 2026. No macro, syntax, notation, axiom, sorry.
-/
import Derived.Test.YtnckalgljfplhaaChecked
import GoSem.Claim
import GoSem.ClaimJoined
import GoSem.ClaimMapViews
import Derived.JoinedTies
import Derived.KernelRfl
namespace Go.Proofs.Ytnckalgljfplhaa
/- THE CELL 'sum', in the pinned program and in every row, IS THE sha256 OF THE DUMP (.gsa) THAT YtnckalgljfplhaaProg.lean LOADS. Nothing in Lean hashes anything: it is a label: what it is worth is what the hold of that sum in a sandbox is worth. -/
noncomputable def Try.pinned : Pinned := { name := "ytnckalgljfplhaa", sum := "6b2c68f0958ea71fd7c20dbb1d70a76cf4501140db665cb78a70710731d76e92", checked := Try.checked }
namespace Rows
def none {H : Type} : Left H := { results := [], args := [] }

/-- 'luminairelaw47.ResponderReceives': WHATEVER THE INPUT: true; the input reads as it did. -/
def responderReceivesSpec : ChangeSpec := { name := "responderReceives", fn := fun _ => fun
  | [d1, d2] => { results := [.lit (.bool true)], args := [d1, d2] }
  | _ => none }
def responderReceivesRow : OpenClaim := { program := "ytnckalgljfplhaa", sum := "6b2c68f0958ea71fd7c20dbb1d70a76cf4501140db665cb78a70710731d76e92", func := "luminaire/luminairelaw47.ResponderReceives", spec := "responderReceives", unfollowed := true, recurses := true, apart := false }
def ResponderReceivesSaid : Prop := responderReceivesRow.holds Try.pinned (OpenSpec.ofChange responderReceivesSpec)

/-- ITS FALSE NEIGHBOUR: 'it returns false'. Refute it at one input. -/
def responderReceivesWrong : ChangeSpec := { name := "responderReceives", fn := fun _ => fun
  | [d1, d2] => { results := [.lit (.bool false)], args := [d1, d2] }
  | _ => none }
def ResponderReceivesWrongFalsely : Prop := responderReceivesRow.holds Try.pinned (OpenSpec.ofChange responderReceivesWrong)

/-- 'luminairelaw47.ResponderHides': WHATEVER THE INPUT: true; the input reads as it did. -/
def responderHidesSpec : ChangeSpec := { name := "responderHides", fn := fun _ => fun
  | [d1, d2, d3] => { results := [.lit (.bool true)], args := [d1, d2, d3] }
  | _ => none }
def responderHidesRow : OpenClaim := { program := "ytnckalgljfplhaa", sum := "6b2c68f0958ea71fd7c20dbb1d70a76cf4501140db665cb78a70710731d76e92", func := "luminaire/luminairelaw47.ResponderHides", spec := "responderHides", unfollowed := true, recurses := true, apart := false }
def ResponderHidesSaid : Prop := responderHidesRow.holds Try.pinned (OpenSpec.ofChange responderHidesSpec)

/-- ITS FALSE NEIGHBOUR: 'it returns false'. Refute it at one input. -/
def responderHidesWrong : ChangeSpec := { name := "responderHides", fn := fun _ => fun
  | [d1, d2, d3] => { results := [.lit (.bool false)], args := [d1, d2, d3] }
  | _ => none }
def ResponderHidesWrongFalsely : Prop := responderHidesRow.holds Try.pinned (OpenSpec.ofChange responderHidesWrong)

/-- 'luminairelaw47.ResponderSettings': WHATEVER THE INPUT: true; the input reads as it did. -/
def responderSettingsSpec : ChangeSpec := { name := "responderSettings", fn := fun _ => fun
  | [d1, d2] => { results := [.lit (.bool true)], args := [d1, d2] }
  | _ => none }
def responderSettingsRow : OpenClaim := { program := "ytnckalgljfplhaa", sum := "6b2c68f0958ea71fd7c20dbb1d70a76cf4501140db665cb78a70710731d76e92", func := "luminaire/luminairelaw47.ResponderSettings", spec := "responderSettings", unfollowed := true, recurses := true, apart := false }
def ResponderSettingsSaid : Prop := responderSettingsRow.holds Try.pinned (OpenSpec.ofChange responderSettingsSpec)

/-- ITS FALSE NEIGHBOUR: 'it returns false'. Refute it at one input. -/
def responderSettingsWrong : ChangeSpec := { name := "responderSettings", fn := fun _ => fun
  | [d1, d2] => { results := [.lit (.bool false)], args := [d1, d2] }
  | _ => none }
def ResponderSettingsWrongFalsely : Prop := responderSettingsRow.holds Try.pinned (OpenSpec.ofChange responderSettingsWrong)

/-- 'luminairelaw47.ResponderKeeps': WHATEVER THE INPUT: true; the input reads as it did. -/
def responderKeepsSpec : ChangeSpec := { name := "responderKeeps", fn := fun _ => fun
  | [d1, d2] => { results := [.lit (.bool true)], args := [d1, d2] }
  | _ => none }
def responderKeepsRow : OpenClaim := { program := "ytnckalgljfplhaa", sum := "6b2c68f0958ea71fd7c20dbb1d70a76cf4501140db665cb78a70710731d76e92", func := "luminaire/luminairelaw47.ResponderKeeps", spec := "responderKeeps", unfollowed := true, recurses := true, apart := false }
def ResponderKeepsSaid : Prop := responderKeepsRow.holds Try.pinned (OpenSpec.ofChange responderKeepsSpec)

/-- ITS FALSE NEIGHBOUR: 'it returns false'. Refute it at one input. -/
def responderKeepsWrong : ChangeSpec := { name := "responderKeeps", fn := fun _ => fun
  | [d1, d2] => { results := [.lit (.bool false)], args := [d1, d2] }
  | _ => none }
def ResponderKeepsWrongFalsely : Prop := responderKeepsRow.holds Try.pinned (OpenSpec.ofChange responderKeepsWrong)

/-- 'luminairelaw47.ResponderMatches': WHATEVER THE INPUT: true; the input reads as it did. -/
def responderMatchesSpec : ChangeSpec := { name := "responderMatches", fn := fun _ => fun
  | [d1, d2] => { results := [.lit (.bool true)], args := [d1, d2] }
  | _ => none }
def responderMatchesRow : OpenClaim := { program := "ytnckalgljfplhaa", sum := "6b2c68f0958ea71fd7c20dbb1d70a76cf4501140db665cb78a70710731d76e92", func := "luminaire/luminairelaw47.ResponderMatches", spec := "responderMatches", unfollowed := true, recurses := true, apart := false }
def ResponderMatchesSaid : Prop := responderMatchesRow.holds Try.pinned (OpenSpec.ofChange responderMatchesSpec)

/-- ITS FALSE NEIGHBOUR: 'it returns false'. Refute it at one input. -/
def responderMatchesWrong : ChangeSpec := { name := "responderMatches", fn := fun _ => fun
  | [d1, d2] => { results := [.lit (.bool false)], args := [d1, d2] }
  | _ => none }
def ResponderMatchesWrongFalsely : Prop := responderMatchesRow.holds Try.pinned (OpenSpec.ofChange responderMatchesWrong)

/-- 'luminairelaw47.ResponderChecks': WHATEVER THE INPUT: true; the input reads as it did. -/
def responderChecksSpec : ChangeSpec := { name := "responderChecks", fn := fun _ => fun
  | [d1, d2, d3] => { results := [.lit (.bool true)], args := [d1, d2, d3] }
  | _ => none }
def responderChecksRow : OpenClaim := { program := "ytnckalgljfplhaa", sum := "6b2c68f0958ea71fd7c20dbb1d70a76cf4501140db665cb78a70710731d76e92", func := "luminaire/luminairelaw47.ResponderChecks", spec := "responderChecks", unfollowed := true, recurses := true, apart := false }
def ResponderChecksSaid : Prop := responderChecksRow.holds Try.pinned (OpenSpec.ofChange responderChecksSpec)

/-- ITS FALSE NEIGHBOUR: 'it returns false'. Refute it at one input. -/
def responderChecksWrong : ChangeSpec := { name := "responderChecks", fn := fun _ => fun
  | [d1, d2, d3] => { results := [.lit (.bool false)], args := [d1, d2, d3] }
  | _ => none }
def ResponderChecksWrongFalsely : Prop := responderChecksRow.holds Try.pinned (OpenSpec.ofChange responderChecksWrong)

/-- 'luminairelaw47.ResponderBuses': WHATEVER THE INPUT: true; the input reads as it did. -/
def responderBusesSpec : ChangeSpec := { name := "responderBuses", fn := fun _ => fun
  | [d1, d2] => { results := [.lit (.bool true)], args := [d1, d2] }
  | _ => none }
def responderBusesRow : OpenClaim := { program := "ytnckalgljfplhaa", sum := "6b2c68f0958ea71fd7c20dbb1d70a76cf4501140db665cb78a70710731d76e92", func := "luminaire/luminairelaw47.ResponderBuses", spec := "responderBuses", unfollowed := true, recurses := true, apart := false }
def ResponderBusesSaid : Prop := responderBusesRow.holds Try.pinned (OpenSpec.ofChange responderBusesSpec)

/-- ITS FALSE NEIGHBOUR: 'it returns false'. Refute it at one input. -/
def responderBusesWrong : ChangeSpec := { name := "responderBuses", fn := fun _ => fun
  | [d1, d2] => { results := [.lit (.bool false)], args := [d1, d2] }
  | _ => none }
def ResponderBusesWrongFalsely : Prop := responderBusesRow.holds Try.pinned (OpenSpec.ofChange responderBusesWrong)

/- THE SECOND FORM. 'bulk': how many values and letters a reading holds, each counted each time it is reached (what is shared counts as often as it is met; a slice's spare places count too). A statement '..UptoSaid' is the law's where the arguments, and the package variables that the reading takes, are together of bulk at most 1048576: NARROWER than '..Said'. Prove '..Said' where nothing that the law and all that it calls make is longer than what came in: it says more and counts as full. Else prove '..UptoSaid'. A law counts once. -/
mutual
def uptoBulk {H : Type} : DataW H → Nat
  | .lit (.string bytes) => bytes.length + 1
  | .lit _ => 1
  | .nil => 1
  | .ptr d => uptoBulk d + 1
  | .slice elems spare => uptoBulkAll elems + uptoBulkAll spare + 1
  | .agg parts => uptoBulkAll parts + 1
  | .iface _ d => uptoBulk d + 1
  | .map entries => uptoBulkEntries entries + 1
  | .held _ => 1
def uptoBulkAll {H : Type} : List (DataW H) → Nat
  | [] => 0
  | d :: r => uptoBulk d + uptoBulkAll r
def uptoBulkEntries {H : Type} : List (Lit × DataW H) → Nat
  | [] => 0
  | x :: r => uptoBulkEntry x + uptoBulkEntries r
def uptoBulkEntry {H : Type} : Lit × DataW H → Nat
  | (.string bytes, d) => bytes.length + uptoBulk d + 1
  | (_, d) => uptoBulk d + 1
 end
def uptoSmall : (H : Type) → List (DataW H) → Bool := fun _ ds => decide (uptoBulkAll ds ≤ 1048576)
def OpenSpec.upto (s : _root_.Go.ChangeSpec) : _root_.Go.OpenSpec := { _root_.Go.OpenSpec.ofChange s with cond := some uptoSmall }

/-- 'luminairelaw47.ResponderReceives', WHERE WHAT IT READS IS OF BULK AT MOST 1048576: true; the input reads as it did. -/
def responderReceivesUptoRow : OpenClaim := { program := "ytnckalgljfplhaa", sum := "6b2c68f0958ea71fd7c20dbb1d70a76cf4501140db665cb78a70710731d76e92", func := "luminaire/luminairelaw47.ResponderReceives", spec := "responderReceives", unfollowed := true, recurses := true, apart := false, narrowed := true }
def ResponderReceivesUptoSaid : Prop := responderReceivesUptoRow.holds Try.pinned (OpenSpec.upto responderReceivesSpec)

/-- 'luminairelaw47.ResponderHides', WHERE WHAT IT READS IS OF BULK AT MOST 1048576: true; the input reads as it did. -/
def responderHidesUptoRow : OpenClaim := { program := "ytnckalgljfplhaa", sum := "6b2c68f0958ea71fd7c20dbb1d70a76cf4501140db665cb78a70710731d76e92", func := "luminaire/luminairelaw47.ResponderHides", spec := "responderHides", unfollowed := true, recurses := true, apart := false, narrowed := true }
def ResponderHidesUptoSaid : Prop := responderHidesUptoRow.holds Try.pinned (OpenSpec.upto responderHidesSpec)

/-- 'luminairelaw47.ResponderSettings', WHERE WHAT IT READS IS OF BULK AT MOST 1048576: true; the input reads as it did. -/
def responderSettingsUptoRow : OpenClaim := { program := "ytnckalgljfplhaa", sum := "6b2c68f0958ea71fd7c20dbb1d70a76cf4501140db665cb78a70710731d76e92", func := "luminaire/luminairelaw47.ResponderSettings", spec := "responderSettings", unfollowed := true, recurses := true, apart := false, narrowed := true }
def ResponderSettingsUptoSaid : Prop := responderSettingsUptoRow.holds Try.pinned (OpenSpec.upto responderSettingsSpec)

/-- 'luminairelaw47.ResponderKeeps', WHERE WHAT IT READS IS OF BULK AT MOST 1048576: true; the input reads as it did. -/
def responderKeepsUptoRow : OpenClaim := { program := "ytnckalgljfplhaa", sum := "6b2c68f0958ea71fd7c20dbb1d70a76cf4501140db665cb78a70710731d76e92", func := "luminaire/luminairelaw47.ResponderKeeps", spec := "responderKeeps", unfollowed := true, recurses := true, apart := false, narrowed := true }
def ResponderKeepsUptoSaid : Prop := responderKeepsUptoRow.holds Try.pinned (OpenSpec.upto responderKeepsSpec)

/-- 'luminairelaw47.ResponderMatches', WHERE WHAT IT READS IS OF BULK AT MOST 1048576: true; the input reads as it did. -/
def responderMatchesUptoRow : OpenClaim := { program := "ytnckalgljfplhaa", sum := "6b2c68f0958ea71fd7c20dbb1d70a76cf4501140db665cb78a70710731d76e92", func := "luminaire/luminairelaw47.ResponderMatches", spec := "responderMatches", unfollowed := true, recurses := true, apart := false, narrowed := true }
def ResponderMatchesUptoSaid : Prop := responderMatchesUptoRow.holds Try.pinned (OpenSpec.upto responderMatchesSpec)

/-- 'luminairelaw47.ResponderChecks', WHERE WHAT IT READS IS OF BULK AT MOST 1048576: true; the input reads as it did. -/
def responderChecksUptoRow : OpenClaim := { program := "ytnckalgljfplhaa", sum := "6b2c68f0958ea71fd7c20dbb1d70a76cf4501140db665cb78a70710731d76e92", func := "luminaire/luminairelaw47.ResponderChecks", spec := "responderChecks", unfollowed := true, recurses := true, apart := false, narrowed := true }
def ResponderChecksUptoSaid : Prop := responderChecksUptoRow.holds Try.pinned (OpenSpec.upto responderChecksSpec)

/-- 'luminairelaw47.ResponderBuses', WHERE WHAT IT READS IS OF BULK AT MOST 1048576: true; the input reads as it did. -/
def responderBusesUptoRow : OpenClaim := { program := "ytnckalgljfplhaa", sum := "6b2c68f0958ea71fd7c20dbb1d70a76cf4501140db665cb78a70710731d76e92", func := "luminaire/luminairelaw47.ResponderBuses", spec := "responderBuses", unfollowed := true, recurses := true, apart := false, narrowed := true }
def ResponderBusesUptoSaid : Prop := responderBusesUptoRow.holds Try.pinned (OpenSpec.upto responderBusesSpec)

end Rows
end Go.Proofs.Ytnckalgljfplhaa
