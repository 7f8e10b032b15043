/-
  The contracts of the exported functions on devices.
-/
import Derived.Test.YtpkhcehddfmhpaaGreatRecvE
import Derived.Test.YtpkhcehddfmhpaaGreatRcvdE
import Derived.Test.YtpkhcehddfmhpaaGreatRchk
import Derived.Test.YtpkhcehddfmhpaaGreatDvs
namespace Go.Proofs.YtpkhcehddfmhpaaGreat
open Go.RowKit

def zeroD : Dev := ⟨0, 0, 0, ⟨#[]⟩, 0, false, false⟩

/-- A device behind a message, its answer, whether there is one, and the number of the error. -/
def receiveD (d : Dev) (m : Msg) : Dev × Msg × Bool × Int :=
  if chkD d ≠ 0 then (zeroD, zeroM, false, chkD d) else if chk m ≠ 0 then (zeroD, zeroM, false, chk m) else ((recvD d m).1, (recvD d m).2.1, (recvD d m).2.2, 0)

/-- What receiving leaves, from outside. -/
def ReceivePost (r : Dev × Msg × Bool × Int) (w : World) (e : Ending) (w' : World) : Prop := e = .returned (.tuple #[devV r.1, msgV r.2.1, .bool r.2.2.1, .int .i64 r.2.2.2]) ∧ Below w.heap.size w w'

theorem receiveD_bad {d : Dev} {m : Msg} {n : Int} (h : chkD d = n) (hn : n ≠ 0) : receiveD d m = (zeroD, zeroM, false, n) := by
  subst h
  rw [receiveD, if_pos hn]
theorem receiveD_badM {d : Dev} {m : Msg} {n : Int} (h : chkD d = 0) (h2 : chk m = n) (hn : n ≠ 0) : receiveD d m = (zeroD, zeroM, false, n) := by
  subst h2
  rw [receiveD, if_neg (not_not_intro h), if_pos hn]
theorem receiveD_ok {d d' : Dev} {m a : Msg} {q : Bool} (h : chkD d = 0) (h2 : chk m = 0) (hr : recvD d m = (d', a, q)) : receiveD d m = (d', a, q, 0) := by
  rw [receiveD, if_neg (not_not_intro h), if_neg (not_not_intro h2), hr]

end Go.Proofs.YtpkhcehddfmhpaaGreat
