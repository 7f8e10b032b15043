/- -/
import Derived.Test.YtjeigphhepngmaaGreatDoorCards
import Derived.JoinedOf
import Derived.KernelRfl
import Derived.SevenTiedAt
namespace Go.Proofs.YtjeigphhepngmaaGreatDoor
set_option maxHeartbeats 8000000
set_option maxRecDepth 100000
set_option maxRecDepth 100000
theorem zhx {a b : Bool} (ha : a = true) (hb : b = true) : (a && b) = true := by rw [ha, hb]; rfl
theorem zeg : laidOutB Tryz.prog = true := by kernel_rfl
theorem zka : mapsRowed Tryz.prog = true := by kernel_rfl
theorem zir : Tryz.pinned.checked.prog.mainIs = some ((Rows.showfileCuesCard.stood.harness).1, (Rows.showfileCuesCard.stood.harness).2.toList) := by kernel_rfl
theorem zj0 : true = Tryz.prog.looks [] := by kernel_rfl
theorem zk6 : Tryz.prog.funcs.any Func.goes = false := by kernel_rfl
theorem zk8 : Tryz.prog.stopsHeard = true := by kernel_rfl
theorem zjz : Tryz.prog.mayEnter = true := by kernel_rfl
theorem zpu {P : Program} (h : P.funcs.any Func.goes = false) (f : FuncId) : P.goes f = false := by
 unfold Program.goes
 rw [h, Bool.and_false, Bool.or_false, List.any_eq_false]
 intro g _
 cases hg : P.funcs[g]? with
 | none => simp
 | some fn =>
   rw [Option.any_some]
   have hm := Array.mem_of_getElem? hg
   rw [Array.any_eq_false'] at h
   exact h fn hm
theorem ziz {P : Program} (h : P.funcs.any Func.goes = false) (c : OpenClaim) (hs : c.start = .entering) : false = c.goesBy P := by
 unfold OpenClaim.goesBy Program.goesAt Program.goesFrom
 rw [hs, Bool.or_false]
 cases P.funcNamed c.func with
 | none => rfl
 | some f => rw [Option.any_some, zpu h]
end Go.Proofs.YtjeigphhepngmaaGreatDoor
