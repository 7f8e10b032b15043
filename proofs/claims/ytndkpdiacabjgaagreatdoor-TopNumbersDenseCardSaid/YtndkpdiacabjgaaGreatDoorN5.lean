/-
  The number between two numbers: the reference.
-/
import Derived.Test.YtndkpdiacabjgaaGreatDoorM5
namespace Go.Proofs.YtndkpdiacabjgaaGreatDoor
open Go.RowKit

theorem ord_ge (x y : Int) (h : y ≤ x) : 0 ≤ ord5 x y := by
  unfold ord5
  rw [if_neg (by omega)]
  split <;> decide
theorem ord_lt (x y : Int) (h : ¬ y ≤ x) : ord5 x y = -1 := by rw [ord5, if_pos (by omega)]

end Go.Proofs.YtndkpdiacabjgaaGreatDoor
