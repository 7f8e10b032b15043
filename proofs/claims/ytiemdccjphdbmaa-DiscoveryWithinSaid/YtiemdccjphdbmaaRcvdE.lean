/-
  The contracts of the reference's receiving.
  The contracts of the reference's receiving: what a device does; a message that is not for it.
  The contract of the reference's receiving, all cases.
-/
import Derived.Test.YtiemdccjphdbmaaAns
import Derived.Deep.CutBlock
import Derived.Outline
import Derived.Test.YtiemdccjphdbmaaRecvD
namespace Go.Proofs.Ytiemdccjphdbmaa
open Go.RowKit

/-- What the reference says of receiving. -/
def RcvdPost (r : Dev × Msg × Bool) (w : World) (e : Ending) (w' : World) : Prop := e = .returned (.tuple #[devV r.1, msgV r.2.1, .bool r.2.2]) ∧ Below w.heap.size w w'

theorem chk_size12 {m : Msg} (h : chk m = 0) (hk : m.kind = 1) : m.dat.size = 12 := chk_size m h hk

end Go.Proofs.Ytiemdccjphdbmaa

namespace Go.Proofs.Ytiemdccjphdbmaa
open Go.RowKit

/-- The cells of a device, spelled out. -/
theorem devA_eq (d : Dev) : devA d = #[.int .u64 d.id, .int .i64 d.ft, .int .i64 d.ad, .string d.lb, .int .i64 d.hr, .bool d.mu, .bool d.idf] := rfl

end Go.Proofs.Ytiemdccjphdbmaa

namespace Go.Proofs.Ytiemdccjphdbmaa
open Go.RowKit

end Go.Proofs.Ytiemdccjphdbmaa
