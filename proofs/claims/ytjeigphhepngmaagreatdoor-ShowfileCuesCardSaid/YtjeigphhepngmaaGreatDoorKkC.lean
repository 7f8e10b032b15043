/-
  The closed facts of the row of ShowfileCues.
-/
import Derived.Test.YtjeigphhepngmaaGreatDoorKj
namespace Go.Proofs.YtjeigphhepngmaaGreatDoor
set_option maxRecDepth 100000

theorem fact_inPlaceC : (Rows.showfileCuesRow.inPlace == Tryz.prog.inPlace 10) = true := by kernel_rfl
theorem fact_unfC : Tryz.prog.unfollowed 10 = true := by kernel_rfl
theorem fact_namedC : (Rows.showfileCuesRow.named == Tryz.prog.varsNamed 10) = true := by kernel_rfl
theorem fact_fnC : Tryz.prog.funcNamed Rows.showfileCuesRow.func = some 10 := by kernel_rfl
theorem fact_uC : Rows.showfileCuesRow.unfollowed = true := by kernel_rfl
theorem fact_rC : Rows.showfileCuesRow.recurses = true := by kernel_rfl
theorem fact_unf2C : (Rows.showfileCuesRow.unfollowed == Tryz.prog.unfollowed 10) = true := by rw [fact_unfC, fact_uC]; rfl
theorem fact_recC : (Rows.showfileCuesRow.recurses == Tryz.prog.recurses 10) = true := by
  have h : Tryz.prog.recurses 10 = true := by unfold Program.recurses; rw [fact_unfC, Bool.true_or]
  rw [h, fact_rC]
  rfl
set_option maxHeartbeats 4000000 in
theorem closedC : joinedFacts Tryz.prog 10 Tryz.f10 Rows.showfileCuesSpec Rows.showfileCuesRow = true := by
  unfold joinedFacts
  repeat' (with_reducible refine and_t ?_ ?_)
  all_goals first
    | with_reducible exact fact_laidOut
    | with_reducible exact fact_mapsRowed
    | with_reducible exact fact_stopsHeard
    | with_reducible exact fact_mayEnter
    | with_reducible exact fact_inPlaceC
    | with_reducible exact fact_unf2C
    | with_reducible exact fact_recC
    | with_reducible exact fact_namedC
    | (as_aux_lemma => kernel_rfl)

end Go.Proofs.YtjeigphhepngmaaGreatDoor
