/-
  The contracts of the reference's answers.
-/
import Derived.Test.YtiemdccjphdbmaaPutR
import Derived.Test.YtiemdccjphdbmaaBas
import Derived.Test.YtiemdccjphdbmaaRchk
namespace Go.Proofs.Ytiemdccjphdbmaa
open Go.RowKit

/-- The answer of a device to a search. -/
def foundD (d : Dev) (m : Msg) : Msg × Bool := if hushD d m then (zeroM, false) else (replied m d.id 6 (bytesB d.id 6), true)

theorem answered_six (m : Msg) (id : Int) (s : ByteArray) : answered m id s (-1) = replied m id 6 s := by rw [answered, if_neg (by decide)]

/-- What the reference leaves of a search. -/
def FoundPost (r : Msg × Bool) (w : World) (e : Ending) (w' : World) : Prop := e = .returned (.tuple #[msgV r.1, .bool r.2]) ∧ Below w.heap.size w w'

end Go.Proofs.Ytiemdccjphdbmaa
