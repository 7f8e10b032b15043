/-
  The contract of the reference's check of messages.
  The contracts of the reference's small functions on messages.
-/
import Derived.Test.YtpkhcehddfmhpaaGreatChk
import Derived.Test.YtpkhcehddfmhpaaGreatRecv
import Derived.Test.YtpkhcehddfmhpaaGreatBas
namespace Go.Proofs.YtpkhcehddfmhpaaGreat
open Go.RowKit

set_option maxHeartbeats 1000000 in
set_option maxRecDepth 100000 in
theorem refchk_any (dst src seq kind par : Int) (dat : ByteArray) (w : World) :
    Calls Tryz.prog 95 #[.agg #[.int .u64 dst, .int .u64 src, .int .i64 seq, .int .i64 kind, .int .i64 par, .string dat]] w
      fun e w' => e = .returned (.int .i64 (chk ⟨dst, src, seq, kind, par, dat⟩)) ∧ Below w.heap.size w w' := by
  obtain ⟨bq, hq⟩ : ∃ b, (dst != 281474976710655) = b := ⟨_, rfl⟩
  go_enter Tryz.func95, Tryz.ntmps95
  go_upto_region 1 with fail
  go_cut [30] (fun s7 wx => s7 = .bool (headBad dst src seq) ∧ wx = w.alloc (.cells #[.int .u64 dst, .int .u64 src, .int .i64 seq, .int .i64 kind, .int .i64 par, .string dat] 52))
  case first =>
    go_wp2_with (first | (go_at_call 129; refine (Is_any _ _).mono ?_; rintro e w' ⟨rfl, rfl⟩))
    all_goals go_meet
    all_goals exact ⟨by congr 1; grind [headBad], rfl⟩
  case rest =>
    obtain ⟨rfl, rfl⟩ := hcut
    go_wp2_with (first | (go_at_call 129; refine (Is_any _ _).mono ?_; rintro e w' ⟨rfl, rfl⟩) | (go_at_call 131; refine (length_any _ _).mono ?_; rintro e w1 ⟨rfl, rfl⟩))
    all_goals first
      | (go_ret; refine ⟨ret_int ?_, ?_⟩)
      | (exfalso; grind [lenOf])
      | (have hs : dat.size = 12 := by grind [lenOf]
         have hk : kind = 1 := by grind
         have s1 : (6 : Int) ≤ (dat.size : Int) := by omega
         have z1 : (dat.extract 0 6).size ≤ 7 := by simp [ByteArray.size_extract]; omega
         have z2 : (dat.extract 6 dat.size).size ≤ 7 := by simp [ByteArray.size_extract]; omega
         have HS := Lib.hid hs
         have HK := Lib.hid hk
         clear hs hk
         go_quiet ((go_at_call 132; refine quiet_left (refnumber_any _ _ ?_); assumption))
         go_wp2_with (go_at_call 129; refine (Is_any _ _).mono ?_; rintro e w' ⟨rfl, rfl⟩))
    all_goals try (go_ret; refine ⟨ret_int ?_, ?_⟩)
    all_goals first
      | exact (Below.refl _ _).alloc (Nat.le_refl _) _
      | exact below_drewN ((Below.refl _ _).alloc (Nat.le_refl _) _) _
      | skip
    all_goals try clear s1 z1 z2
    all_goals try have HE : List.take (dat.size - 6) (List.drop 6 dat.data.toList) = List.drop 6 dat.data.toList := List.take_of_length_le (by simp)
    all_goals try have HS' := HS.out
    all_goals try have HK' := HK.out
    all_goals try simp only [HE] at *
    all_goals grind [chk, lenOf, headBad]

end Go.Proofs.YtpkhcehddfmhpaaGreat

namespace Go.Proofs.YtpkhcehddfmhpaaGreat
open Go.RowKit

set_option maxHeartbeats 400000 in
theorem replied_any (dst src seq kind par id k : Int) (dat s : ByteArray) (w : World) :
    Calls Tryz.prog 187 #[.agg #[.int .u64 dst, .int .u64 src, .int .i64 seq, .int .i64 kind, .int .i64 par, .string dat], .int .u64 id, .int .i64 k, .string s] w fun e w' => e = .returned (.agg #[.int .u64 src, .int .u64 id, .int .i64 seq, .int .i64 k, .int .i64 par, .string s]) ∧ Below w.heap.size w w' := by
  go_enter Tryz.func187, Tryz.ntmps187
  go_wp2
  refine bodyPost_ret (v := msgV ⟨src, id, seq, k, par, s⟩) ?_ rfl ⟨rfl, ?_⟩
  · simp [results, Tryz.results187, go_sem, *]
  · (repeat' (first | (with_reducible exact Below.refl _ _) | (with_reducible assumption) | (with_reducible refine below_run ?_ (by assumption)) | (with_reducible refine below_of_upd ?_ (by assumption) ?_) | (with_reducible refine below_drewN ?_ _) | (with_reducible refine Below.drew ?_) | (with_reducible refine Below.setCell ?_ ?_ _) | (with_reducible refine Below.alloc ?_ ?_ _) | (with_reducible refine below_after ?_ ?_ (by assumption)) | (show _ ≤ _; first | omega | (simp; done) | (simp; omega))))

set_option maxHeartbeats 1000000 in
set_option maxRecDepth 100000 in
theorem ends_any (dst src seq kind par : Int) (dat : ByteArray) (w : World) (hs : Hid (dat.size = 12)) :
    Calls Tryz.prog 182 #[.agg #[.int .u64 dst, .int .u64 src, .int .i64 seq, .int .i64 kind, .int .i64 par, .string dat]] w fun e w' => ∃ l h, e = .returned (.tuple #[.int .u64 l, .int .u64 h]) ∧ Hid (lowM ⟨dst, src, seq, kind, par, dat⟩ = l ∧ highM ⟨dst, src, seq, kind, par, dat⟩ = h) ∧ Below w.heap.size w w' := by
  have hs' := hs.out
  have s1 : (6 : Int) ≤ (dat.size : Int) := by omega
  have z1 : (dat.extract 0 6).size ≤ 7 := by simp [ByteArray.size_extract]; omega
  have z2 : (dat.extract 6 dat.size).size ≤ 7 := by simp [ByteArray.size_extract]; omega
  have HE : List.take (dat.size - 6) (List.drop 6 dat.data.toList) = List.drop 6 dat.data.toList := List.take_of_length_le (by simp)
  clear hs'
  go_enter Tryz.func182, Tryz.ntmps182
  go_wp2
  go_quiet ((go_at_call 132; refine quiet_left (refnumber_any _ _ ?_); assumption))
  go_wp2
  go_ret2
  exact ⟨lowM ⟨dst, src, seq, kind, par, dat⟩, highM ⟨dst, src, seq, kind, par, dat⟩, by simp [lowM, highM, HE], ⟨rfl, rfl⟩, by (repeat' (first | (with_reducible exact Below.refl _ _) | (with_reducible assumption) | (with_reducible refine below_run ?_ (by assumption)) | (with_reducible refine below_of_upd ?_ (by assumption) ?_) | (with_reducible refine below_drewN ?_ _) | (with_reducible refine Below.drew ?_) | (with_reducible refine Below.setCell ?_ ?_ _) | (with_reducible refine Below.alloc ?_ ?_ _) | (with_reducible refine below_after ?_ ?_ (by assumption)) | (show _ ≤ _; first | omega | (simp; done) | (simp; omega))))⟩

end Go.Proofs.YtpkhcehddfmhpaaGreat
