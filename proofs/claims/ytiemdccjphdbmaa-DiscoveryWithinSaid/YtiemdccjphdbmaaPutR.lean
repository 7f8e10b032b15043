/-
  The contracts of the reference's settings.
  The contracts of the reference's setting of settings.
-/
import Derived.Test.YtiemdccjphdbmaaRecv
namespace Go.Proofs.Ytiemdccjphdbmaa
open Go.RowKit

/-- A device as a value. -/
@[go_sem] def devV (d : Dev) : Value := .agg #[.int .u64 d.id, .int .i64 d.ft, .int .i64 d.ad, .string d.lb, .int .i64 d.hr, .bool d.mu, .bool d.idf]

theorem fine_open {id ft ad hr : Int} {lb : ByteArray} {mu idf : Bool} (h : Fine ⟨id, ft, ad, lb, hr, mu, idf⟩) : 0 ≤ id ∧ id < 281474976710655 ∧ 1 ≤ ft ∧ ft ≤ 512 ∧ 1 ≤ ad ∧ ad ≤ 512 ∧ 0 ≤ hr ∧ hr ≤ 4294967295 := h

end Go.Proofs.Ytiemdccjphdbmaa

namespace Go.Proofs.Ytiemdccjphdbmaa
open Go.RowKit

theorem num_two (a b : UInt8) (n : Nat) (hn : n = a.toNat * 256 + b.toNat) : wrap64 (wrap64 (256 * wrap64 (a.toNat : Int)) + wrap64 (b.toNat : Int)) = (n : Int) := by
  have ha := a.toNat_lt
  have hb := b.toNat_lt
  rw [IntWalk.wrap64_in (a.toNat : Int) (by omega), IntWalk.wrap64_in (b.toNat : Int) (by omega), IntWalk.wrap64_in (256 * _) (by omega), IntWalk.wrap64_in _ (by omega)]
  omega

end Go.Proofs.Ytiemdccjphdbmaa
