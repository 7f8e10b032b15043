/-
  No cell of these rows narrows 'for every input' (looked for: loops, veiled, ifaces, maps, wideKeys, modest, calm, conditions, laid).
  DERIVED. THE GIVEN ROWS OF THIS SEAT. 2 by the template 'for every input the law returns true; each argument reads behind the call as it read before'; 0 by the template 'total and deterministic' (their statements: YtpkhcehddfmhpaaGreatTotals.lean).
  GIVEN WITH THE SEED: the statements are not yours to turn. If you find one false, say at which input.
  Laid BY PROGRAM, IN A SANDBOX (cutbox-rows.mjs): the forced cells as the released guide's own fill.sh prints them over the translation 555756fd9a0b1ec8… (all of the seat's roots in one cut). By AI agents, Wed Nov 11 2026. No macro, syntax, notation, axiom, sorry.
-/
import Derived.Test.YtpkhcehddfmhpaaGreatChecked
import GoSem.Claim
import GoSem.ClaimJoined
import GoSem.ClaimMapViews
import Derived.JoinedTies
import Derived.KernelRfl
namespace Go.Proofs.YtpkhcehddfmhpaaGreat
/- THE CELL 'sum', in the pinned program and in every row, IS THE sha256 OF THE DUMP (.gsa) THAT YtpkhcehddfmhpaaGreatProg.lean LOADS. Nothing in Lean hashes anything: it is a label: what it is worth is what the hold of that sum in a sandbox is worth. -/
noncomputable def Tryz.pinned : Pinned := { name := "ytpkhcehddfmhpaagreat", sum := "555756fd9a0b1ec8ca98d592719504a5f7179a874b8672149b421a5cfce886b5", checked := Tryz.checked }
namespace Rows
def none {H : Type} : Left H := { results := [], args := [] }

/-- 'luminairelaw49.ManagerAsks': WHATEVER THE INPUT: true; the input reads as it did. -/
def managerAsksSpec : ChangeSpec := { name := "managerAsks", fn := fun _ => fun
  | [d1, d2] => { results := [.lit (.bool true)], args := [d1, d2] }
  | _ => none }
def managerAsksRow : OpenClaim := { program := "ytpkhcehddfmhpaagreat", sum := "555756fd9a0b1ec8ca98d592719504a5f7179a874b8672149b421a5cfce886b5", func := "luminaire/luminairelaw49.ManagerAsks", spec := "managerAsks", inPlace := ["internal/abi.NoEscape"], unfollowed := true, recurses := true, apart := false }
def ManagerAsksSaid : Prop := managerAsksRow.holds Tryz.pinned (OpenSpec.ofChange managerAsksSpec)

/-- ITS FALSE NEIGHBOUR: 'it returns false'. Refute it at one input. -/
def managerAsksWrong : ChangeSpec := { name := "managerAsks", fn := fun _ => fun
  | [d1, d2] => { results := [.lit (.bool false)], args := [d1, d2] }
  | _ => none }
def ManagerAsksWrongFalsely : Prop := managerAsksRow.holds Tryz.pinned (OpenSpec.ofChange managerAsksWrong)

/-- 'luminairetop.TopBusCarries': WHATEVER THE INPUT: true; the input reads as it did. -/
def topBusCarriesSpec : ChangeSpec := { name := "topBusCarries", fn := fun _ => fun
  | [d1, d2, d3] => { results := [.lit (.bool true)], args := [d1, d2, d3] }
  | _ => none }
def topBusCarriesRow : OpenClaim := { program := "ytpkhcehddfmhpaagreat", sum := "555756fd9a0b1ec8ca98d592719504a5f7179a874b8672149b421a5cfce886b5", func := "luminaire/luminairetop.TopBusCarries", spec := "topBusCarries", inPlace := ["internal/abi.NoEscape"], unfollowed := true, recurses := true, apart := false }
def TopBusCarriesSaid : Prop := topBusCarriesRow.holds Tryz.pinned (OpenSpec.ofChange topBusCarriesSpec)

/-- ITS FALSE NEIGHBOUR: 'it returns false'. Refute it at one input. -/
def topBusCarriesWrong : ChangeSpec := { name := "topBusCarries", fn := fun _ => fun
  | [d1, d2, d3] => { results := [.lit (.bool false)], args := [d1, d2, d3] }
  | _ => none }
def TopBusCarriesWrongFalsely : Prop := topBusCarriesRow.holds Tryz.pinned (OpenSpec.ofChange topBusCarriesWrong)

/- THE SECOND FORM. 'bulk': how many values and letters a reading holds, each counted each time it is reached (what is shared counts as often as it is met; a slice's spare places count too). A statement '..UptoSaid' is the law's where the arguments, and the package variables that the reading takes, are together of bulk at most 1048576: NARROWER than '..Said'. Prove '..Said' where nothing that the law and all that it calls make is longer than what came in: it says more and counts as full. Else prove '..UptoSaid'. A law counts once. -/
mutual
def uptoBulk {H : Type} : DataW H → Nat
  | .lit (.string bytes) => bytes.length + 1
  | .lit _ => 1
  | .nil => 1
  | .ptr d => uptoBulk d + 1
  | .slice elems spare => uptoBulkAll elems + uptoBulkAll spare + 1
  | .agg parts => uptoBulkAll parts + 1
  | .iface _ d => uptoBulk d + 1
  | .map entries => uptoBulkEntries entries + 1
  | .held _ => 1
def uptoBulkAll {H : Type} : List (DataW H) → Nat
  | [] => 0
  | d :: r => uptoBulk d + uptoBulkAll r
def uptoBulkEntries {H : Type} : List (Lit × DataW H) → Nat
  | [] => 0
  | x :: r => uptoBulkEntry x + uptoBulkEntries r
def uptoBulkEntry {H : Type} : Lit × DataW H → Nat
  | (.string bytes, d) => bytes.length + uptoBulk d + 1
  | (_, d) => uptoBulk d + 1
 end
def uptoSmall : (H : Type) → List (DataW H) → Bool := fun _ ds => decide (uptoBulkAll ds ≤ 1048576)
def OpenSpec.upto (s : _root_.Go.ChangeSpec) : _root_.Go.OpenSpec := { _root_.Go.OpenSpec.ofChange s with cond := some uptoSmall }

/-- 'luminairelaw49.ManagerAsks', WHERE WHAT IT READS IS OF BULK AT MOST 1048576: true; the input reads as it did. -/
def managerAsksUptoRow : OpenClaim := { program := "ytpkhcehddfmhpaagreat", sum := "555756fd9a0b1ec8ca98d592719504a5f7179a874b8672149b421a5cfce886b5", func := "luminaire/luminairelaw49.ManagerAsks", spec := "managerAsks", inPlace := ["internal/abi.NoEscape"], unfollowed := true, recurses := true, apart := false, narrowed := true }
def ManagerAsksUptoSaid : Prop := managerAsksUptoRow.holds Tryz.pinned (OpenSpec.upto managerAsksSpec)

/-- 'luminairetop.TopBusCarries', WHERE WHAT IT READS IS OF BULK AT MOST 1048576: true; the input reads as it did. -/
def topBusCarriesUptoRow : OpenClaim := { program := "ytpkhcehddfmhpaagreat", sum := "555756fd9a0b1ec8ca98d592719504a5f7179a874b8672149b421a5cfce886b5", func := "luminaire/luminairetop.TopBusCarries", spec := "topBusCarries", inPlace := ["internal/abi.NoEscape"], unfollowed := true, recurses := true, apart := false, narrowed := true }
def TopBusCarriesUptoSaid : Prop := topBusCarriesUptoRow.holds Tryz.pinned (OpenSpec.upto topBusCarriesSpec)

end Rows
end Go.Proofs.YtpkhcehddfmhpaaGreat
