/-
  The walks of four laws on numbers: what both sides say is the same.
-/
import Derived.Test.YtndkpdiacabjgaaDoorP5
namespace Go.Proofs.YtndkpdiacabjgaaDoor
open Go.RowKit

end Go.Proofs.YtndkpdiacabjgaaDoor
