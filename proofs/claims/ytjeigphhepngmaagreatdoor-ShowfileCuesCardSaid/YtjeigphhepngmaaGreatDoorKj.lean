/-
  The closed facts of chapter 50's rows that all laws share.
-/
import Derived.Test.YtjeigphhepngmaaGreatDoorCards
import Derived.JoinedOf
import Derived.KernelRfl
import Derived.SevenTiedAt
namespace Go.Proofs.YtjeigphhepngmaaGreatDoor
set_option maxRecDepth 100000

theorem and_t {a b : Bool} (ha : a = true) (hb : b = true) : (a && b) = true := by rw [ha, hb]; rfl
theorem fact_laidOut : laidOutB Tryz.prog = true := by kernel_rfl
theorem fact_mapsRowed : mapsRowed Tryz.prog = true := by kernel_rfl
theorem fact_mainIs : Tryz.pinned.checked.prog.mainIs = some ((Rows.showfileCuesCard.stood.harness).1, (Rows.showfileCuesCard.stood.harness).2.toList) := by kernel_rfl
theorem fact_looks : true = Tryz.prog.looks [] := by kernel_rfl
theorem fact_anyGoes : Tryz.prog.funcs.any Func.goes = false := by kernel_rfl
theorem fact_stopsHeard : Tryz.prog.stopsHeard = true := by kernel_rfl
theorem fact_mayEnter : Tryz.prog.mayEnter = true := by kernel_rfl

theorem goes_none {P : Program} (h : P.funcs.any Func.goes = false) (f : FuncId) : P.goes f = false := by
  unfold Program.goes
  rw [h, Bool.and_false, Bool.or_false, List.any_eq_false]
  intro g _
  cases hg : P.funcs[g]? with
  | none => simp
  | some fn =>
    rw [Option.any_some]
    have hm := Array.mem_of_getElem? hg
    rw [Array.any_eq_false'] at h
    exact h fn hm
theorem goesBy_none {P : Program} (h : P.funcs.any Func.goes = false) (c : OpenClaim) (hs : c.start = .entering) : false = c.goesBy P := by
  unfold OpenClaim.goesBy Program.goesAt Program.goesFrom
  rw [hs, Bool.or_false]
  cases P.funcNamed c.func with
  | none => rfl
  | some f => rw [Option.any_some, goes_none h]

end Go.Proofs.YtjeigphhepngmaaGreatDoor
