/-
  The contracts of the reference's small functions on messages.
-/
import Derived.Test.YtdklpmaeajpacaaDoorReq
import Derived.Test.YtdklpmaeajpacaaDoorRchk
import Derived.Test.YtdklpmaeajpacaaDoorRow
namespace Go.Proofs.YtdklpmaeajpacaaDoor
open Go.RowKit

set_option maxHeartbeats 400000 in
theorem replied_any (dst src seq kind par id k : Int) (dat s : ByteArray) (w : World) :
    Calls Tryd.prog 89 #[.agg #[.int .u64 dst, .int .u64 src, .int .i64 seq, .int .i64 kind, .int .i64 par, .string dat], .int .u64 id, .int .i64 k, .string s] w fun e w' => e = .returned (.agg #[.int .u64 src, .int .u64 id, .int .i64 seq, .int .i64 k, .int .i64 par, .string s]) ∧ Below w.heap.size w w' := by
  go_enter Tryd.func89, Tryd.ntmps89
  go_wp2
  refine bodyPost_ret (v := msgV ⟨src, id, seq, k, par, s⟩) ?_ rfl ⟨rfl, ?_⟩
  · simp [results, Tryd.results89, go_sem, *]
  · (repeat' (first | (with_reducible exact Below.refl _ _) | (with_reducible assumption) | (with_reducible refine below_run ?_ (by assumption)) | (with_reducible refine below_of_upd ?_ (by assumption) ?_) | (with_reducible refine below_drewN ?_ _) | (with_reducible refine Below.drew ?_) | (with_reducible refine Below.setCell ?_ ?_ _) | (with_reducible refine Below.alloc ?_ ?_ _) | (with_reducible refine below_after ?_ ?_ (by assumption)) | (show _ ≤ _; first | omega | (simp; done) | (simp; omega))))

set_option maxHeartbeats 1000000 in
set_option maxRecDepth 100000 in
theorem ends_any (dst src seq kind par : Int) (dat : ByteArray) (w : World) (hs : Hid (dat.size = 12)) :
    Calls Tryd.prog 77 #[.agg #[.int .u64 dst, .int .u64 src, .int .i64 seq, .int .i64 kind, .int .i64 par, .string dat]] w fun e w' => ∃ l h, e = .returned (.tuple #[.int .u64 l, .int .u64 h]) ∧ Hid (lowM ⟨dst, src, seq, kind, par, dat⟩ = l ∧ highM ⟨dst, src, seq, kind, par, dat⟩ = h) ∧ Below w.heap.size w w' := by
  have hs' := hs.out
  have s1 : (6 : Int) ≤ (dat.size : Int) := by omega
  have z1 : (dat.extract 0 6).size ≤ 7 := by simp [ByteArray.size_extract]; omega
  have z2 : (dat.extract 6 dat.size).size ≤ 7 := by simp [ByteArray.size_extract]; omega
  have HE : List.take (dat.size - 6) (List.drop 6 dat.data.toList) = List.drop 6 dat.data.toList := List.take_of_length_le (by simp)
  clear hs'
  go_enter Tryd.func77, Tryd.ntmps77
  go_wp2
  go_quiet ((go_at_call 60; refine quiet_left (refnumber_any _ _ ?_); assumption))
  go_wp2
  go_ret2
  exact ⟨lowM ⟨dst, src, seq, kind, par, dat⟩, highM ⟨dst, src, seq, kind, par, dat⟩, by simp [lowM, highM, HE], ⟨rfl, rfl⟩, by (repeat' (first | (with_reducible exact Below.refl _ _) | (with_reducible assumption) | (with_reducible refine below_run ?_ (by assumption)) | (with_reducible refine below_of_upd ?_ (by assumption) ?_) | (with_reducible refine below_drewN ?_ _) | (with_reducible refine Below.drew ?_) | (with_reducible refine Below.setCell ?_ ?_ _) | (with_reducible refine Below.alloc ?_ ?_ _) | (with_reducible refine below_after ?_ ?_ (by assumption)) | (show _ ≤ _; first | omega | (simp; done) | (simp; omega))))⟩

end Go.Proofs.YtdklpmaeajpacaaDoor
