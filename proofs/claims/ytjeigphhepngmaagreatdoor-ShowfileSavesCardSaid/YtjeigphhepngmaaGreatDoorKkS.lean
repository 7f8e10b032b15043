/- -/
import Derived.Test.YtjeigphhepngmaaGreatDoorKj
namespace Go.Proofs.YtjeigphhepngmaaGreatDoor
set_option maxHeartbeats 8000000
set_option maxRecDepth 100000
set_option maxRecDepth 100000
theorem zrp : (Rows.showfileSavesRow.inPlace == Tryz.prog.inPlace 5) = true := by kernel_rfl
theorem zj9 : Tryz.prog.unfollowed 5 = true := by kernel_rfl
theorem zyc : (Rows.showfileSavesRow.named == Tryz.prog.varsNamed 5) = true := by kernel_rfl
theorem zi2 : Tryz.prog.funcNamed Rows.showfileSavesRow.func = some 5 := by kernel_rfl
theorem zxp : Rows.showfileSavesRow.unfollowed = true := by kernel_rfl
theorem zri : Rows.showfileSavesRow.recurses = true := by kernel_rfl
theorem zsr : (Rows.showfileSavesRow.unfollowed == Tryz.prog.unfollowed 5) = true := by rw [zj9, zxp]; rfl
theorem zyi : (Rows.showfileSavesRow.recurses == Tryz.prog.recurses 5) = true := by
 have h : Tryz.prog.recurses 5 = true := by unfold Program.recurses; rw [zj9, Bool.true_or]
 rw [h, zri]
 rfl
theorem closedS : joinedFacts Tryz.prog 5 Tryz.f5 Rows.showfileSavesSpec Rows.showfileSavesRow = true := by
 unfold joinedFacts
 repeat' (with_reducible refine zhx ?_ ?_)
 all_goals first
  | with_reducible exact zeg
  | with_reducible exact zka
  | with_reducible exact zk8
  | with_reducible exact zjz
  | with_reducible exact zrp
  | with_reducible exact zsr
  | with_reducible exact zyi
  | with_reducible exact zyc
  | (as_aux_lemma => kernel_rfl)
end Go.Proofs.YtjeigphhepngmaaGreatDoor
