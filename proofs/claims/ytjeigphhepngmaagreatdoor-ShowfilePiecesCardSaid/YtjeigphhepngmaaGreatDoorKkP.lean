/- -/
import Derived.Test.YtjeigphhepngmaaGreatDoorKj
namespace Go.Proofs.YtjeigphhepngmaaGreatDoor
set_option maxHeartbeats 8000000
set_option maxRecDepth 100000
set_option maxRecDepth 100000
theorem zt6 : (Rows.showfilePiecesRow.inPlace == Tryz.prog.inPlace 3) = true := by kernel_rfl
theorem zkd : Tryz.prog.unfollowed 3 = true := by kernel_rfl
theorem zxj : (Rows.showfilePiecesRow.named == Tryz.prog.varsNamed 3) = true := by kernel_rfl
theorem zkl : Tryz.prog.funcNamed Rows.showfilePiecesRow.func = some 3 := by kernel_rfl
theorem znb : Rows.showfilePiecesRow.unfollowed = true := by kernel_rfl
theorem zss : Rows.showfilePiecesRow.recurses = true := by kernel_rfl
theorem zxf : (Rows.showfilePiecesRow.unfollowed == Tryz.prog.unfollowed 3) = true := by rw [zkd, znb]; rfl
theorem zns : (Rows.showfilePiecesRow.recurses == Tryz.prog.recurses 3) = true := by
 have h : Tryz.prog.recurses 3 = true := by unfold Program.recurses; rw [zkd, Bool.true_or]
 rw [h, zss]
 rfl
theorem closedP : joinedFacts Tryz.prog 3 Tryz.f3 Rows.showfilePiecesSpec Rows.showfilePiecesRow = true := by
 unfold joinedFacts
 repeat' (with_reducible refine zhx ?_ ?_)
 all_goals first
  | with_reducible exact zeg
  | with_reducible exact zka
  | with_reducible exact zk8
  | with_reducible exact zjz
  | with_reducible exact zt6
  | with_reducible exact zxf
  | with_reducible exact zns
  | with_reducible exact zxj
  | (as_aux_lemma => kernel_rfl)
end Go.Proofs.YtjeigphhepngmaaGreatDoor
