/-
  Contracts of the small functions on identities, lengths and addresses.
-/
import Derived.Test.YtdklpmaeajpacaaDoorRows
import Derived.Test.YtdklpmaeajpacaaDoorMath
import Derived.WalkKit
import Derived.WalkSpells
import Derived.WalkLawsBesides
import Derived.Lib.Hide
namespace Go.Proofs.YtdklpmaeajpacaaDoor
open Go.RowKit

theorem ret_bool {a b : Bool} (h : a = b) : Ending.returned (.bool a) = .returned (.bool b) := by rw [h]
theorem ret_int {k : IntKind} {a b : Int} (h : a = b) : Ending.returned (.int k a) = .returned (.int k b) := by rw [h]
theorem ret_str {a b : ByteArray} (h : a = b) : Ending.returned (.string a) = .returned (.string b) := by rw [h]

set_option maxHeartbeats 400000 in
theorem is_any (n : Int) (w : World) :
    Calls Tryd.prog 55 #[.int .u64 n] w fun e w' => e = .returned (.bool (isId n)) ∧ w = w' := by
  go_enter Tryd.func55, Tryd.ntmps55
  go_wp2
  all_goals go_ret
  all_goals exact ⟨ret_bool (by grind [isId]), rfl⟩

set_option maxHeartbeats 400000 in
theorem Is_any (n : Int) (w : World) :
    Calls Tryd.prog 58 #[.int .u64 n] w fun e w' => e = .returned (.bool (isId n)) ∧ w = w' := by
  go_enter Tryd.func58, Tryd.ntmps58
  go_wp2
  all_goals go_ret
  all_goals exact ⟨ret_bool (by grind [isId]), rfl⟩

set_option maxHeartbeats 400000 in
theorem length_any (k : Int) (w : World) :
    Calls Tryd.prog 59 #[.int .i64 k] w fun e w' => e = .returned (.int .i64 (lenOf k)) ∧ w = w' := by
  go_enter Tryd.func59, Tryd.ntmps59
  go_wp2
  all_goals go_ret
  all_goals exact ⟨ret_int (by grind [lenOf]), rfl⟩

end Go.Proofs.YtdklpmaeajpacaaDoor
