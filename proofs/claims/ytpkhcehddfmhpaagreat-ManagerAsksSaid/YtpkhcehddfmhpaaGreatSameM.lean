/-
  Two lists of messages compared.
-/
import Derived.Test.YtpkhcehddfmhpaaGreatSame
namespace Go.Proofs.YtpkhcehddfmhpaaGreat
open Go.RowKit

end Go.Proofs.YtpkhcehddfmhpaaGreat
