/-
  No cell of these rows narrows 'for every input' (looked for: loops, veiled, ifaces, maps, wideKeys, modest, calm, conditions, laid).
  DERIVED. THE GIVEN ROWS OF THIS SEAT. 10 by the template 'for every input the law returns true; each argument reads behind the call as it read before'; 0 by the template 'total and deterministic' (their statements: YtpjmhhfpjhmiiaaGreatTotals.lean).
  GIVEN WITH THE SEED: the statements are not yours to turn. If you find one false, say at which input.
  Laid BY PROGRAM, IN A SANDBOX (cutbox-rows.mjs): the forced cells as the released guide's own fill.sh prints them over the translation cc3691b8149f77c2… (all of the seat's roots in one cut). By AI agents, Wed Nov 11 2026. No macro, syntax, notation, axiom, sorry.
-/
import Derived.Test.YtpjmhhfpjhmiiaaGreatChecked
import GoSem.Claim
import GoSem.ClaimJoined
import GoSem.ClaimMapViews
import Derived.JoinedTies
import Derived.KernelRfl
namespace Go.Proofs.YtpjmhhfpjhmiiaaGreat
/- THE CELL 'sum', in the pinned program and in every row, IS THE sha256 OF THE DUMP (.gsa) THAT YtpjmhhfpjhmiiaaGreatProg.lean LOADS. Nothing in Lean hashes anything: it is a label: what it is worth is what the hold of that sum in a sandbox is worth. -/
noncomputable def Tryz.pinned : Pinned := { name := "ytpjmhhfpjhmiiaagreat", sum := "cc3691b8149f77c224ce5b8a5411aa06d98cfc4b675e02c7a142af3c0af6786f", checked := Tryz.checked }
namespace Rows
def none {H : Type} : Left H := { results := [], args := [] }

/-- 'luminairelaw49.ManagerChecks': WHATEVER THE INPUT: true; the input reads as it did. -/
def managerChecksSpec : ChangeSpec := { name := "managerChecks", fn := fun _ => fun
  | [d1, d2, d3] => { results := [.lit (.bool true)], args := [d1, d2, d3] }
  | _ => none }
def managerChecksRow : OpenClaim := { program := "ytpjmhhfpjhmiiaagreat", sum := "cc3691b8149f77c224ce5b8a5411aa06d98cfc4b675e02c7a142af3c0af6786f", func := "luminaire/luminairelaw49.ManagerChecks", spec := "managerChecks", inPlace := ["internal/abi.NoEscape"], unfollowed := true, recurses := true, apart := false }
def ManagerChecksSaid : Prop := managerChecksRow.holds Tryz.pinned (OpenSpec.ofChange managerChecksSpec)

/-- ITS FALSE NEIGHBOUR: 'it returns false'. Refute it at one input. -/
def managerChecksWrong : ChangeSpec := { name := "managerChecks", fn := fun _ => fun
  | [d1, d2, d3] => { results := [.lit (.bool false)], args := [d1, d2, d3] }
  | _ => none }
def ManagerChecksWrongFalsely : Prop := managerChecksRow.holds Tryz.pinned (OpenSpec.ofChange managerChecksWrong)

/-- 'luminairelaw49.ManagerAsks': WHATEVER THE INPUT: true; the input reads as it did. -/
def managerAsksSpec : ChangeSpec := { name := "managerAsks", fn := fun _ => fun
  | [d1, d2] => { results := [.lit (.bool true)], args := [d1, d2] }
  | _ => none }
def managerAsksRow : OpenClaim := { program := "ytpjmhhfpjhmiiaagreat", sum := "cc3691b8149f77c224ce5b8a5411aa06d98cfc4b675e02c7a142af3c0af6786f", func := "luminaire/luminairelaw49.ManagerAsks", spec := "managerAsks", inPlace := ["internal/abi.NoEscape"], unfollowed := true, recurses := true, apart := false }
def ManagerAsksSaid : Prop := managerAsksRow.holds Tryz.pinned (OpenSpec.ofChange managerAsksSpec)

/-- ITS FALSE NEIGHBOUR: 'it returns false'. Refute it at one input. -/
def managerAsksWrong : ChangeSpec := { name := "managerAsks", fn := fun _ => fun
  | [d1, d2] => { results := [.lit (.bool false)], args := [d1, d2] }
  | _ => none }
def ManagerAsksWrongFalsely : Prop := managerAsksRow.holds Tryz.pinned (OpenSpec.ofChange managerAsksWrong)

/-- 'luminairelaw49.ManagerInsists': WHATEVER THE INPUT: true; the input reads as it did. -/
def managerInsistsSpec : ChangeSpec := { name := "managerInsists", fn := fun _ => fun
  | [d1, d2] => { results := [.lit (.bool true)], args := [d1, d2] }
  | _ => none }
def managerInsistsRow : OpenClaim := { program := "ytpjmhhfpjhmiiaagreat", sum := "cc3691b8149f77c224ce5b8a5411aa06d98cfc4b675e02c7a142af3c0af6786f", func := "luminaire/luminairelaw49.ManagerInsists", spec := "managerInsists", inPlace := ["internal/abi.NoEscape"], unfollowed := true, recurses := true, apart := false }
def ManagerInsistsSaid : Prop := managerInsistsRow.holds Tryz.pinned (OpenSpec.ofChange managerInsistsSpec)

/-- ITS FALSE NEIGHBOUR: 'it returns false'. Refute it at one input. -/
def managerInsistsWrong : ChangeSpec := { name := "managerInsists", fn := fun _ => fun
  | [d1, d2] => { results := [.lit (.bool false)], args := [d1, d2] }
  | _ => none }
def ManagerInsistsWrongFalsely : Prop := managerInsistsRow.holds Tryz.pinned (OpenSpec.ofChange managerInsistsWrong)

/-- 'luminairelaw49.ManagerSets': WHATEVER THE INPUT: true; the input reads as it did. -/
def managerSetsSpec : ChangeSpec := { name := "managerSets", fn := fun _ => fun
  | [d1, d2, d3] => { results := [.lit (.bool true)], args := [d1, d2, d3] }
  | _ => none }
def managerSetsRow : OpenClaim := { program := "ytpjmhhfpjhmiiaagreat", sum := "cc3691b8149f77c224ce5b8a5411aa06d98cfc4b675e02c7a142af3c0af6786f", func := "luminaire/luminairelaw49.ManagerSets", spec := "managerSets", inPlace := ["internal/abi.NoEscape"], unfollowed := true, recurses := true, apart := false }
def ManagerSetsSaid : Prop := managerSetsRow.holds Tryz.pinned (OpenSpec.ofChange managerSetsSpec)

/-- ITS FALSE NEIGHBOUR: 'it returns false'. Refute it at one input. -/
def managerSetsWrong : ChangeSpec := { name := "managerSets", fn := fun _ => fun
  | [d1, d2, d3] => { results := [.lit (.bool false)], args := [d1, d2, d3] }
  | _ => none }
def ManagerSetsWrongFalsely : Prop := managerSetsRow.holds Tryz.pinned (OpenSpec.ofChange managerSetsWrong)

/-- 'luminairelaw49.ManagerReads': WHATEVER THE INPUT: true; the input reads as it did. -/
def managerReadsSpec : ChangeSpec := { name := "managerReads", fn := fun _ => fun
  | [d1, d2, d3] => { results := [.lit (.bool true)], args := [d1, d2, d3] }
  | _ => none }
def managerReadsRow : OpenClaim := { program := "ytpjmhhfpjhmiiaagreat", sum := "cc3691b8149f77c224ce5b8a5411aa06d98cfc4b675e02c7a142af3c0af6786f", func := "luminaire/luminairelaw49.ManagerReads", spec := "managerReads", inPlace := ["internal/abi.NoEscape"], unfollowed := true, recurses := true, apart := false }
def ManagerReadsSaid : Prop := managerReadsRow.holds Tryz.pinned (OpenSpec.ofChange managerReadsSpec)

/-- ITS FALSE NEIGHBOUR: 'it returns false'. Refute it at one input. -/
def managerReadsWrong : ChangeSpec := { name := "managerReads", fn := fun _ => fun
  | [d1, d2, d3] => { results := [.lit (.bool false)], args := [d1, d2, d3] }
  | _ => none }
def ManagerReadsWrongFalsely : Prop := managerReadsRow.holds Tryz.pinned (OpenSpec.ofChange managerReadsWrong)

/-- 'luminairelaw49.ManagerSends': WHATEVER THE INPUT: true; the input reads as it did. -/
def managerSendsSpec : ChangeSpec := { name := "managerSends", fn := fun _ => fun
  | [d1, d2] => { results := [.lit (.bool true)], args := [d1, d2] }
  | _ => none }
def managerSendsRow : OpenClaim := { program := "ytpjmhhfpjhmiiaagreat", sum := "cc3691b8149f77c224ce5b8a5411aa06d98cfc4b675e02c7a142af3c0af6786f", func := "luminaire/luminairelaw49.ManagerSends", spec := "managerSends", inPlace := ["internal/abi.NoEscape"], unfollowed := true, recurses := true, apart := false }
def ManagerSendsSaid : Prop := managerSendsRow.holds Tryz.pinned (OpenSpec.ofChange managerSendsSpec)

/-- ITS FALSE NEIGHBOUR: 'it returns false'. Refute it at one input. -/
def managerSendsWrong : ChangeSpec := { name := "managerSends", fn := fun _ => fun
  | [d1, d2] => { results := [.lit (.bool false)], args := [d1, d2] }
  | _ => none }
def ManagerSendsWrongFalsely : Prop := managerSendsRow.holds Tryz.pinned (OpenSpec.ofChange managerSendsWrong)

/-- 'luminairelaw49.ManagerWaits': WHATEVER THE INPUT: true; the input reads as it did. -/
def managerWaitsSpec : ChangeSpec := { name := "managerWaits", fn := fun _ => fun
  | [d1, d2, d3] => { results := [.lit (.bool true)], args := [d1, d2, d3] }
  | _ => none }
def managerWaitsRow : OpenClaim := { program := "ytpjmhhfpjhmiiaagreat", sum := "cc3691b8149f77c224ce5b8a5411aa06d98cfc4b675e02c7a142af3c0af6786f", func := "luminaire/luminairelaw49.ManagerWaits", spec := "managerWaits", inPlace := ["internal/abi.NoEscape"], unfollowed := true, recurses := true, apart := false }
def ManagerWaitsSaid : Prop := managerWaitsRow.holds Tryz.pinned (OpenSpec.ofChange managerWaitsSpec)

/-- ITS FALSE NEIGHBOUR: 'it returns false'. Refute it at one input. -/
def managerWaitsWrong : ChangeSpec := { name := "managerWaits", fn := fun _ => fun
  | [d1, d2, d3] => { results := [.lit (.bool false)], args := [d1, d2, d3] }
  | _ => none }
def ManagerWaitsWrongFalsely : Prop := managerWaitsRow.holds Tryz.pinned (OpenSpec.ofChange managerWaitsWrong)

/-- 'luminairelaw49.ManagerRounds': WHATEVER THE INPUT: true; the input reads as it did. -/
def managerRoundsSpec : ChangeSpec := { name := "managerRounds", fn := fun _ => fun
  | [d1, d2, d3] => { results := [.lit (.bool true)], args := [d1, d2, d3] }
  | _ => none }
def managerRoundsRow : OpenClaim := { program := "ytpjmhhfpjhmiiaagreat", sum := "cc3691b8149f77c224ce5b8a5411aa06d98cfc4b675e02c7a142af3c0af6786f", func := "luminaire/luminairelaw49.ManagerRounds", spec := "managerRounds", inPlace := ["internal/abi.NoEscape"], unfollowed := true, recurses := true, apart := false }
def ManagerRoundsSaid : Prop := managerRoundsRow.holds Tryz.pinned (OpenSpec.ofChange managerRoundsSpec)

/-- ITS FALSE NEIGHBOUR: 'it returns false'. Refute it at one input. -/
def managerRoundsWrong : ChangeSpec := { name := "managerRounds", fn := fun _ => fun
  | [d1, d2, d3] => { results := [.lit (.bool false)], args := [d1, d2, d3] }
  | _ => none }
def ManagerRoundsWrongFalsely : Prop := managerRoundsRow.holds Tryz.pinned (OpenSpec.ofChange managerRoundsWrong)

/-- 'luminairetop.TopBusKeeps': WHATEVER THE INPUT: true; the input reads as it did. -/
def topBusKeepsSpec : ChangeSpec := { name := "topBusKeeps", fn := fun _ => fun
  | [d1, d2, d3] => { results := [.lit (.bool true)], args := [d1, d2, d3] }
  | _ => none }
def topBusKeepsRow : OpenClaim := { program := "ytpjmhhfpjhmiiaagreat", sum := "cc3691b8149f77c224ce5b8a5411aa06d98cfc4b675e02c7a142af3c0af6786f", func := "luminaire/luminairetop.TopBusKeeps", spec := "topBusKeeps", inPlace := ["internal/abi.NoEscape"], unfollowed := true, recurses := true, apart := false }
def TopBusKeepsSaid : Prop := topBusKeepsRow.holds Tryz.pinned (OpenSpec.ofChange topBusKeepsSpec)

/-- ITS FALSE NEIGHBOUR: 'it returns false'. Refute it at one input. -/
def topBusKeepsWrong : ChangeSpec := { name := "topBusKeeps", fn := fun _ => fun
  | [d1, d2, d3] => { results := [.lit (.bool false)], args := [d1, d2, d3] }
  | _ => none }
def TopBusKeepsWrongFalsely : Prop := topBusKeepsRow.holds Tryz.pinned (OpenSpec.ofChange topBusKeepsWrong)

/-- 'luminairetop.TopBusTells': WHATEVER THE INPUT: true; the input reads as it did. -/
def topBusTellsSpec : ChangeSpec := { name := "topBusTells", fn := fun _ => fun
  | [d1, d2, d3] => { results := [.lit (.bool true)], args := [d1, d2, d3] }
  | _ => none }
def topBusTellsRow : OpenClaim := { program := "ytpjmhhfpjhmiiaagreat", sum := "cc3691b8149f77c224ce5b8a5411aa06d98cfc4b675e02c7a142af3c0af6786f", func := "luminaire/luminairetop.TopBusTells", spec := "topBusTells", inPlace := ["internal/abi.NoEscape"], unfollowed := true, recurses := true, apart := false }
def TopBusTellsSaid : Prop := topBusTellsRow.holds Tryz.pinned (OpenSpec.ofChange topBusTellsSpec)

/-- ITS FALSE NEIGHBOUR: 'it returns false'. Refute it at one input. -/
def topBusTellsWrong : ChangeSpec := { name := "topBusTells", fn := fun _ => fun
  | [d1, d2, d3] => { results := [.lit (.bool false)], args := [d1, d2, d3] }
  | _ => none }
def TopBusTellsWrongFalsely : Prop := topBusTellsRow.holds Tryz.pinned (OpenSpec.ofChange topBusTellsWrong)

/- THE SECOND FORM. 'bulk': how many values and letters a reading holds, each counted each time it is reached (what is shared counts as often as it is met; a slice's spare places count too). A statement '..UptoSaid' is the law's where the arguments, and the package variables that the reading takes, are together of bulk at most 1048576: NARROWER than '..Said'. Prove '..Said' where nothing that the law and all that it calls make is longer than what came in: it says more and counts as full. Else prove '..UptoSaid'. A law counts once. -/
mutual
def uptoBulk {H : Type} : DataW H → Nat
  | .lit (.string bytes) => bytes.length + 1
  | .lit _ => 1
  | .nil => 1
  | .ptr d => uptoBulk d + 1
  | .slice elems spare => uptoBulkAll elems + uptoBulkAll spare + 1
  | .agg parts => uptoBulkAll parts + 1
  | .iface _ d => uptoBulk d + 1
  | .map entries => uptoBulkEntries entries + 1
  | .held _ => 1
def uptoBulkAll {H : Type} : List (DataW H) → Nat
  | [] => 0
  | d :: r => uptoBulk d + uptoBulkAll r
def uptoBulkEntries {H : Type} : List (Lit × DataW H) → Nat
  | [] => 0
  | x :: r => uptoBulkEntry x + uptoBulkEntries r
def uptoBulkEntry {H : Type} : Lit × DataW H → Nat
  | (.string bytes, d) => bytes.length + uptoBulk d + 1
  | (_, d) => uptoBulk d + 1
 end
def uptoSmall : (H : Type) → List (DataW H) → Bool := fun _ ds => decide (uptoBulkAll ds ≤ 1048576)
def OpenSpec.upto (s : _root_.Go.ChangeSpec) : _root_.Go.OpenSpec := { _root_.Go.OpenSpec.ofChange s with cond := some uptoSmall }

/-- 'luminairelaw49.ManagerChecks', WHERE WHAT IT READS IS OF BULK AT MOST 1048576: true; the input reads as it did. -/
def managerChecksUptoRow : OpenClaim := { program := "ytpjmhhfpjhmiiaagreat", sum := "cc3691b8149f77c224ce5b8a5411aa06d98cfc4b675e02c7a142af3c0af6786f", func := "luminaire/luminairelaw49.ManagerChecks", spec := "managerChecks", inPlace := ["internal/abi.NoEscape"], unfollowed := true, recurses := true, apart := false, narrowed := true }
def ManagerChecksUptoSaid : Prop := managerChecksUptoRow.holds Tryz.pinned (OpenSpec.upto managerChecksSpec)

/-- 'luminairelaw49.ManagerAsks', WHERE WHAT IT READS IS OF BULK AT MOST 1048576: true; the input reads as it did. -/
def managerAsksUptoRow : OpenClaim := { program := "ytpjmhhfpjhmiiaagreat", sum := "cc3691b8149f77c224ce5b8a5411aa06d98cfc4b675e02c7a142af3c0af6786f", func := "luminaire/luminairelaw49.ManagerAsks", spec := "managerAsks", inPlace := ["internal/abi.NoEscape"], unfollowed := true, recurses := true, apart := false, narrowed := true }
def ManagerAsksUptoSaid : Prop := managerAsksUptoRow.holds Tryz.pinned (OpenSpec.upto managerAsksSpec)

/-- 'luminairelaw49.ManagerInsists', WHERE WHAT IT READS IS OF BULK AT MOST 1048576: true; the input reads as it did. -/
def managerInsistsUptoRow : OpenClaim := { program := "ytpjmhhfpjhmiiaagreat", sum := "cc3691b8149f77c224ce5b8a5411aa06d98cfc4b675e02c7a142af3c0af6786f", func := "luminaire/luminairelaw49.ManagerInsists", spec := "managerInsists", inPlace := ["internal/abi.NoEscape"], unfollowed := true, recurses := true, apart := false, narrowed := true }
def ManagerInsistsUptoSaid : Prop := managerInsistsUptoRow.holds Tryz.pinned (OpenSpec.upto managerInsistsSpec)

/-- 'luminairelaw49.ManagerSets', WHERE WHAT IT READS IS OF BULK AT MOST 1048576: true; the input reads as it did. -/
def managerSetsUptoRow : OpenClaim := { program := "ytpjmhhfpjhmiiaagreat", sum := "cc3691b8149f77c224ce5b8a5411aa06d98cfc4b675e02c7a142af3c0af6786f", func := "luminaire/luminairelaw49.ManagerSets", spec := "managerSets", inPlace := ["internal/abi.NoEscape"], unfollowed := true, recurses := true, apart := false, narrowed := true }
def ManagerSetsUptoSaid : Prop := managerSetsUptoRow.holds Tryz.pinned (OpenSpec.upto managerSetsSpec)

/-- 'luminairelaw49.ManagerReads', WHERE WHAT IT READS IS OF BULK AT MOST 1048576: true; the input reads as it did. -/
def managerReadsUptoRow : OpenClaim := { program := "ytpjmhhfpjhmiiaagreat", sum := "cc3691b8149f77c224ce5b8a5411aa06d98cfc4b675e02c7a142af3c0af6786f", func := "luminaire/luminairelaw49.ManagerReads", spec := "managerReads", inPlace := ["internal/abi.NoEscape"], unfollowed := true, recurses := true, apart := false, narrowed := true }
def ManagerReadsUptoSaid : Prop := managerReadsUptoRow.holds Tryz.pinned (OpenSpec.upto managerReadsSpec)

/-- 'luminairelaw49.ManagerSends', WHERE WHAT IT READS IS OF BULK AT MOST 1048576: true; the input reads as it did. -/
def managerSendsUptoRow : OpenClaim := { program := "ytpjmhhfpjhmiiaagreat", sum := "cc3691b8149f77c224ce5b8a5411aa06d98cfc4b675e02c7a142af3c0af6786f", func := "luminaire/luminairelaw49.ManagerSends", spec := "managerSends", inPlace := ["internal/abi.NoEscape"], unfollowed := true, recurses := true, apart := false, narrowed := true }
def ManagerSendsUptoSaid : Prop := managerSendsUptoRow.holds Tryz.pinned (OpenSpec.upto managerSendsSpec)

/-- 'luminairelaw49.ManagerWaits', WHERE WHAT IT READS IS OF BULK AT MOST 1048576: true; the input reads as it did. -/
def managerWaitsUptoRow : OpenClaim := { program := "ytpjmhhfpjhmiiaagreat", sum := "cc3691b8149f77c224ce5b8a5411aa06d98cfc4b675e02c7a142af3c0af6786f", func := "luminaire/luminairelaw49.ManagerWaits", spec := "managerWaits", inPlace := ["internal/abi.NoEscape"], unfollowed := true, recurses := true, apart := false, narrowed := true }
def ManagerWaitsUptoSaid : Prop := managerWaitsUptoRow.holds Tryz.pinned (OpenSpec.upto managerWaitsSpec)

/-- 'luminairelaw49.ManagerRounds', WHERE WHAT IT READS IS OF BULK AT MOST 1048576: true; the input reads as it did. -/
def managerRoundsUptoRow : OpenClaim := { program := "ytpjmhhfpjhmiiaagreat", sum := "cc3691b8149f77c224ce5b8a5411aa06d98cfc4b675e02c7a142af3c0af6786f", func := "luminaire/luminairelaw49.ManagerRounds", spec := "managerRounds", inPlace := ["internal/abi.NoEscape"], unfollowed := true, recurses := true, apart := false, narrowed := true }
def ManagerRoundsUptoSaid : Prop := managerRoundsUptoRow.holds Tryz.pinned (OpenSpec.upto managerRoundsSpec)

/-- 'luminairetop.TopBusKeeps', WHERE WHAT IT READS IS OF BULK AT MOST 1048576: true; the input reads as it did. -/
def topBusKeepsUptoRow : OpenClaim := { program := "ytpjmhhfpjhmiiaagreat", sum := "cc3691b8149f77c224ce5b8a5411aa06d98cfc4b675e02c7a142af3c0af6786f", func := "luminaire/luminairetop.TopBusKeeps", spec := "topBusKeeps", inPlace := ["internal/abi.NoEscape"], unfollowed := true, recurses := true, apart := false, narrowed := true }
def TopBusKeepsUptoSaid : Prop := topBusKeepsUptoRow.holds Tryz.pinned (OpenSpec.upto topBusKeepsSpec)

/-- 'luminairetop.TopBusTells', WHERE WHAT IT READS IS OF BULK AT MOST 1048576: true; the input reads as it did. -/
def topBusTellsUptoRow : OpenClaim := { program := "ytpjmhhfpjhmiiaagreat", sum := "cc3691b8149f77c224ce5b8a5411aa06d98cfc4b675e02c7a142af3c0af6786f", func := "luminaire/luminairetop.TopBusTells", spec := "topBusTells", inPlace := ["internal/abi.NoEscape"], unfollowed := true, recurses := true, apart := false, narrowed := true }
def TopBusTellsUptoSaid : Prop := topBusTellsUptoRow.holds Tryz.pinned (OpenSpec.upto topBusTellsSpec)

end Rows
end Go.Proofs.YtpjmhhfpjhmiiaaGreat
