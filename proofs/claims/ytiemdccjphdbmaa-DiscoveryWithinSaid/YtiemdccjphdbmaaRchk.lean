/-
  The contract of the reference's check of messages.
  The contracts of the reference's small functions on messages.
-/
import Derived.Test.YtiemdccjphdbmaaChk
import Derived.Test.YtiemdccjphdbmaaRecv
import Derived.Test.YtiemdccjphdbmaaBas
namespace Go.Proofs.Ytiemdccjphdbmaa
open Go.RowKit

end Go.Proofs.Ytiemdccjphdbmaa

namespace Go.Proofs.Ytiemdccjphdbmaa
open Go.RowKit

end Go.Proofs.Ytiemdccjphdbmaa
