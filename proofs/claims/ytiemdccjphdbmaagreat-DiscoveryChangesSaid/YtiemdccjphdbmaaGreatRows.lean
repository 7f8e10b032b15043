/-
  No cell of these rows narrows 'for every input' (looked for: loops, veiled, ifaces, maps, wideKeys, modest, calm, conditions, laid).
  DERIVED. THE GIVEN ROWS OF THIS SEAT. 5 by the template 'for every input the law returns true; each argument reads behind the call as it read before'; 0 by the template 'total and deterministic' (their statements: YtiemdccjphdbmaaGreatTotals.lean).
  GIVEN WITH THE SEED: the statements are not yours to turn. If you find one false, say at which input.
  Laid BY PROGRAM, IN A SANDBOX (cutbox-rows.mjs): the forced cells as the released guide's own fill.sh prints them over the translation 6f8f18b623a67275… (all of the seat's roots in one cut). By AI agents, Wed Nov 11 2026. No macro, syntax, notation, axiom, sorry.
-/
import Derived.Test.YtiemdccjphdbmaaGreatChecked
import GoSem.Claim
import GoSem.ClaimJoined
import GoSem.ClaimMapViews
import Derived.JoinedTies
import Derived.KernelRfl
namespace Go.Proofs.YtiemdccjphdbmaaGreat
/- THE CELL 'sum', in the pinned program and in every row, IS THE sha256 OF THE DUMP (.gsa) THAT YtiemdccjphdbmaaGreatProg.lean LOADS. Nothing in Lean hashes anything: it is a label: what it is worth is what the hold of that sum in a sandbox is worth. -/
noncomputable def Tryz.pinned : Pinned := { name := "ytiemdccjphdbmaagreat", sum := "6f8f18b623a67275d0e22f12c5803b8960bc7fdbb62673d4cba05ca4151f3c7d", checked := Tryz.checked }
namespace Rows
def none {H : Type} : Left H := { results := [], args := [] }

/-- 'luminairelaw48.DiscoverySearches': WHATEVER THE INPUT: true; the input reads as it did. -/
def discoverySearchesSpec : ChangeSpec := { name := "discoverySearches", fn := fun _ => fun
  | [d1, d2] => { results := [.lit (.bool true)], args := [d1, d2] }
  | _ => none }
def discoverySearchesRow : OpenClaim := { program := "ytiemdccjphdbmaagreat", sum := "6f8f18b623a67275d0e22f12c5803b8960bc7fdbb62673d4cba05ca4151f3c7d", func := "luminaire/luminairelaw48.DiscoverySearches", spec := "discoverySearches", inPlace := ["internal/abi.NoEscape"], unfollowed := true, recurses := true, apart := false }
def DiscoverySearchesSaid : Prop := discoverySearchesRow.holds Tryz.pinned (OpenSpec.ofChange discoverySearchesSpec)

/-- ITS FALSE NEIGHBOUR: 'it returns false'. Refute it at one input. -/
def discoverySearchesWrong : ChangeSpec := { name := "discoverySearches", fn := fun _ => fun
  | [d1, d2] => { results := [.lit (.bool false)], args := [d1, d2] }
  | _ => none }
def DiscoverySearchesWrongFalsely : Prop := discoverySearchesRow.holds Tryz.pinned (OpenSpec.ofChange discoverySearchesWrong)

/-- 'luminairelaw48.DiscoveryHears': WHATEVER THE INPUT: true; the input reads as it did. -/
def discoveryHearsSpec : ChangeSpec := { name := "discoveryHears", fn := fun _ => fun
  | [d1, d2, d3] => { results := [.lit (.bool true)], args := [d1, d2, d3] }
  | _ => none }
def discoveryHearsRow : OpenClaim := { program := "ytiemdccjphdbmaagreat", sum := "6f8f18b623a67275d0e22f12c5803b8960bc7fdbb62673d4cba05ca4151f3c7d", func := "luminaire/luminairelaw48.DiscoveryHears", spec := "discoveryHears", inPlace := ["internal/abi.NoEscape"], unfollowed := true, recurses := true, apart := false }
def DiscoveryHearsSaid : Prop := discoveryHearsRow.holds Tryz.pinned (OpenSpec.ofChange discoveryHearsSpec)

/-- ITS FALSE NEIGHBOUR: 'it returns false'. Refute it at one input. -/
def discoveryHearsWrong : ChangeSpec := { name := "discoveryHears", fn := fun _ => fun
  | [d1, d2, d3] => { results := [.lit (.bool false)], args := [d1, d2, d3] }
  | _ => none }
def DiscoveryHearsWrongFalsely : Prop := discoveryHearsRow.holds Tryz.pinned (OpenSpec.ofChange discoveryHearsWrong)

/-- 'luminairelaw48.DiscoveryFinds': WHATEVER THE INPUT: true; the input reads as it did. -/
def discoveryFindsSpec : ChangeSpec := { name := "discoveryFinds", fn := fun _ => fun
  | [d1, d2, d3] => { results := [.lit (.bool true)], args := [d1, d2, d3] }
  | _ => none }
def discoveryFindsRow : OpenClaim := { program := "ytiemdccjphdbmaagreat", sum := "6f8f18b623a67275d0e22f12c5803b8960bc7fdbb62673d4cba05ca4151f3c7d", func := "luminaire/luminairelaw48.DiscoveryFinds", spec := "discoveryFinds", inPlace := ["internal/abi.NoEscape"], unfollowed := true, recurses := true, apart := false }
def DiscoveryFindsSaid : Prop := discoveryFindsRow.holds Tryz.pinned (OpenSpec.ofChange discoveryFindsSpec)

/-- ITS FALSE NEIGHBOUR: 'it returns false'. Refute it at one input. -/
def discoveryFindsWrong : ChangeSpec := { name := "discoveryFinds", fn := fun _ => fun
  | [d1, d2, d3] => { results := [.lit (.bool false)], args := [d1, d2, d3] }
  | _ => none }
def DiscoveryFindsWrongFalsely : Prop := discoveryFindsRow.holds Tryz.pinned (OpenSpec.ofChange discoveryFindsWrong)

/-- 'luminairelaw48.DiscoveryAll': WHATEVER THE INPUT: true; the input reads as it did. -/
def discoveryAllSpec : ChangeSpec := { name := "discoveryAll", fn := fun _ => fun
  | [d1, d2] => { results := [.lit (.bool true)], args := [d1, d2] }
  | _ => none }
def discoveryAllRow : OpenClaim := { program := "ytiemdccjphdbmaagreat", sum := "6f8f18b623a67275d0e22f12c5803b8960bc7fdbb62673d4cba05ca4151f3c7d", func := "luminaire/luminairelaw48.DiscoveryAll", spec := "discoveryAll", inPlace := ["internal/abi.NoEscape"], unfollowed := true, recurses := true, apart := false }
def DiscoveryAllSaid : Prop := discoveryAllRow.holds Tryz.pinned (OpenSpec.ofChange discoveryAllSpec)

/-- ITS FALSE NEIGHBOUR: 'it returns false'. Refute it at one input. -/
def discoveryAllWrong : ChangeSpec := { name := "discoveryAll", fn := fun _ => fun
  | [d1, d2] => { results := [.lit (.bool false)], args := [d1, d2] }
  | _ => none }
def DiscoveryAllWrongFalsely : Prop := discoveryAllRow.holds Tryz.pinned (OpenSpec.ofChange discoveryAllWrong)

/-- 'luminairelaw48.DiscoveryChanges': WHATEVER THE INPUT: true; the input reads as it did. -/
def discoveryChangesSpec : ChangeSpec := { name := "discoveryChanges", fn := fun _ => fun
  | [d1, d2, d3] => { results := [.lit (.bool true)], args := [d1, d2, d3] }
  | _ => none }
def discoveryChangesRow : OpenClaim := { program := "ytiemdccjphdbmaagreat", sum := "6f8f18b623a67275d0e22f12c5803b8960bc7fdbb62673d4cba05ca4151f3c7d", func := "luminaire/luminairelaw48.DiscoveryChanges", spec := "discoveryChanges", inPlace := ["internal/abi.NoEscape"], unfollowed := true, recurses := true, apart := false }
def DiscoveryChangesSaid : Prop := discoveryChangesRow.holds Tryz.pinned (OpenSpec.ofChange discoveryChangesSpec)

/-- ITS FALSE NEIGHBOUR: 'it returns false'. Refute it at one input. -/
def discoveryChangesWrong : ChangeSpec := { name := "discoveryChanges", fn := fun _ => fun
  | [d1, d2, d3] => { results := [.lit (.bool false)], args := [d1, d2, d3] }
  | _ => none }
def DiscoveryChangesWrongFalsely : Prop := discoveryChangesRow.holds Tryz.pinned (OpenSpec.ofChange discoveryChangesWrong)

/- THE SECOND FORM. 'bulk': how many values and letters a reading holds, each counted each time it is reached (what is shared counts as often as it is met; a slice's spare places count too). A statement '..UptoSaid' is the law's where the arguments, and the package variables that the reading takes, are together of bulk at most 1048576: NARROWER than '..Said'. Prove '..Said' where nothing that the law and all that it calls make is longer than what came in: it says more and counts as full. Else prove '..UptoSaid'. A law counts once. -/
mutual
def uptoBulk {H : Type} : DataW H → Nat
  | .lit (.string bytes) => bytes.length + 1
  | .lit _ => 1
  | .nil => 1
  | .ptr d => uptoBulk d + 1
  | .slice elems spare => uptoBulkAll elems + uptoBulkAll spare + 1
  | .agg parts => uptoBulkAll parts + 1
  | .iface _ d => uptoBulk d + 1
  | .map entries => uptoBulkEntries entries + 1
  | .held _ => 1
def uptoBulkAll {H : Type} : List (DataW H) → Nat
  | [] => 0
  | d :: r => uptoBulk d + uptoBulkAll r
def uptoBulkEntries {H : Type} : List (Lit × DataW H) → Nat
  | [] => 0
  | x :: r => uptoBulkEntry x + uptoBulkEntries r
def uptoBulkEntry {H : Type} : Lit × DataW H → Nat
  | (.string bytes, d) => bytes.length + uptoBulk d + 1
  | (_, d) => uptoBulk d + 1
 end
def uptoSmall : (H : Type) → List (DataW H) → Bool := fun _ ds => decide (uptoBulkAll ds ≤ 1048576)
def OpenSpec.upto (s : _root_.Go.ChangeSpec) : _root_.Go.OpenSpec := { _root_.Go.OpenSpec.ofChange s with cond := some uptoSmall }

/-- 'luminairelaw48.DiscoverySearches', WHERE WHAT IT READS IS OF BULK AT MOST 1048576: true; the input reads as it did. -/
def discoverySearchesUptoRow : OpenClaim := { program := "ytiemdccjphdbmaagreat", sum := "6f8f18b623a67275d0e22f12c5803b8960bc7fdbb62673d4cba05ca4151f3c7d", func := "luminaire/luminairelaw48.DiscoverySearches", spec := "discoverySearches", inPlace := ["internal/abi.NoEscape"], unfollowed := true, recurses := true, apart := false, narrowed := true }
def DiscoverySearchesUptoSaid : Prop := discoverySearchesUptoRow.holds Tryz.pinned (OpenSpec.upto discoverySearchesSpec)

/-- 'luminairelaw48.DiscoveryHears', WHERE WHAT IT READS IS OF BULK AT MOST 1048576: true; the input reads as it did. -/
def discoveryHearsUptoRow : OpenClaim := { program := "ytiemdccjphdbmaagreat", sum := "6f8f18b623a67275d0e22f12c5803b8960bc7fdbb62673d4cba05ca4151f3c7d", func := "luminaire/luminairelaw48.DiscoveryHears", spec := "discoveryHears", inPlace := ["internal/abi.NoEscape"], unfollowed := true, recurses := true, apart := false, narrowed := true }
def DiscoveryHearsUptoSaid : Prop := discoveryHearsUptoRow.holds Tryz.pinned (OpenSpec.upto discoveryHearsSpec)

/-- 'luminairelaw48.DiscoveryFinds', WHERE WHAT IT READS IS OF BULK AT MOST 1048576: true; the input reads as it did. -/
def discoveryFindsUptoRow : OpenClaim := { program := "ytiemdccjphdbmaagreat", sum := "6f8f18b623a67275d0e22f12c5803b8960bc7fdbb62673d4cba05ca4151f3c7d", func := "luminaire/luminairelaw48.DiscoveryFinds", spec := "discoveryFinds", inPlace := ["internal/abi.NoEscape"], unfollowed := true, recurses := true, apart := false, narrowed := true }
def DiscoveryFindsUptoSaid : Prop := discoveryFindsUptoRow.holds Tryz.pinned (OpenSpec.upto discoveryFindsSpec)

/-- 'luminairelaw48.DiscoveryAll', WHERE WHAT IT READS IS OF BULK AT MOST 1048576: true; the input reads as it did. -/
def discoveryAllUptoRow : OpenClaim := { program := "ytiemdccjphdbmaagreat", sum := "6f8f18b623a67275d0e22f12c5803b8960bc7fdbb62673d4cba05ca4151f3c7d", func := "luminaire/luminairelaw48.DiscoveryAll", spec := "discoveryAll", inPlace := ["internal/abi.NoEscape"], unfollowed := true, recurses := true, apart := false, narrowed := true }
def DiscoveryAllUptoSaid : Prop := discoveryAllUptoRow.holds Tryz.pinned (OpenSpec.upto discoveryAllSpec)

/-- 'luminairelaw48.DiscoveryChanges', WHERE WHAT IT READS IS OF BULK AT MOST 1048576: true; the input reads as it did. -/
def discoveryChangesUptoRow : OpenClaim := { program := "ytiemdccjphdbmaagreat", sum := "6f8f18b623a67275d0e22f12c5803b8960bc7fdbb62673d4cba05ca4151f3c7d", func := "luminaire/luminairelaw48.DiscoveryChanges", spec := "discoveryChanges", inPlace := ["internal/abi.NoEscape"], unfollowed := true, recurses := true, apart := false, narrowed := true }
def DiscoveryChangesUptoSaid : Prop := discoveryChangesUptoRow.holds Tryz.pinned (OpenSpec.upto discoveryChangesSpec)

end Rows
end Go.Proofs.YtiemdccjphdbmaaGreat
