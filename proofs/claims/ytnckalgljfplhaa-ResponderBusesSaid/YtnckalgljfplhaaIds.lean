/-
  Contracts of the small functions on identities, lengths and addresses.
-/
import Derived.Test.YtnckalgljfplhaaRows
import Derived.Test.YtnckalgljfplhaaMath
import Derived.WalkKit
import Derived.WalkSpells
import Derived.WalkLawsBesides
import Derived.Lib.Hide
namespace Go.Proofs.Ytnckalgljfplhaa
open Go.RowKit

theorem ret_bool {a b : Bool} (h : a = b) : Ending.returned (.bool a) = .returned (.bool b) := by rw [h]
theorem ret_int {k : IntKind} {a b : Int} (h : a = b) : Ending.returned (.int k a) = .returned (.int k b) := by rw [h]
theorem ret_str {a b : ByteArray} (h : a = b) : Ending.returned (.string a) = .returned (.string b) := by rw [h]

set_option maxHeartbeats 400000 in
theorem is_any (n : Int) (w : World) :
    Calls Try.prog 45 #[.int .u64 n] w fun e w' => e = .returned (.bool (isId n)) ∧ w = w' := by
  go_enter Try.func45, Try.ntmps45
  go_wp2
  all_goals go_ret
  all_goals exact ⟨ret_bool (by grind [isId]), rfl⟩

set_option maxHeartbeats 400000 in
theorem Is_any (n : Int) (w : World) :
    Calls Try.prog 41 #[.int .u64 n] w fun e w' => e = .returned (.bool (isId n)) ∧ w = w' := by
  go_enter Try.func41, Try.ntmps41
  go_wp2
  all_goals go_ret
  all_goals exact ⟨ret_bool (by grind [isId]), rfl⟩

set_option maxHeartbeats 400000 in
theorem named_any (n : Int) (w : World) :
    Calls Try.prog 51 #[.int .u64 n] w fun e w' => e = .returned (.bool (isId n)) ∧ w = w' := by
  go_enter Try.func51, Try.ntmps51
  go_wp2
  all_goals go_ret
  all_goals exact ⟨ret_bool (by grind [isId]), rfl⟩

/-- The slots of a device are there. -/
def fitsB (ad ft : Int) : Bool := decide (1 ≤ ad ∧ ad ≤ 512 ∧ ad + ft - 1 ≤ 512)

set_option maxHeartbeats 400000 in
theorem fits_any (b : Nat) (ft ad : Int) (w : World) (h1 : 1 ≤ ft) (h2 : ft ≤ 512) (hc : w.cell? ⟨b, 1, none⟩ = some (.int .i64 ft)) :
    Calls Try.prog 52 #[.pointer (some ⟨b, 0, none⟩), .int .i64 ad] w fun e w' => e = .returned (.bool (fitsB ad ft)) ∧ w = w' := by
  go_enter Try.func52, Try.ntmps52
  go_wp2
  all_goals go_ret
  all_goals exact ⟨ret_bool (by grind [fitsB]), rfl⟩

set_option maxHeartbeats 400000 in
theorem Fits_any (ft ad : Int) (w : World) (h1 : 1 ≤ ft) (h2 : ft ≤ 512) :
    Calls Try.prog 42 #[.int .i64 ad, .int .i64 ft] w fun e w' => e = .returned (.bool (fitsB ad ft)) ∧ w = w' := by
  go_enter Try.func42, Try.ntmps42
  go_wp2
  all_goals go_ret
  all_goals exact ⟨ret_bool (by grind [fitsB]), rfl⟩

set_option maxHeartbeats 400000 in
theorem length_any (k : Int) (w : World) :
    Calls Try.prog 54 #[.int .i64 k] w fun e w' => e = .returned (.int .i64 (lenOf k)) ∧ w = w' := by
  go_enter Try.func54, Try.ntmps54
  go_wp2
  all_goals go_ret
  all_goals exact ⟨ret_int (by grind [lenOf]), rfl⟩

end Go.Proofs.Ytnckalgljfplhaa
