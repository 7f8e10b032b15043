/-
  Contracts of the two checks of messages.
-/
import Derived.Test.YtpkhcehddfmhpaaGreatIds
import Derived.Test.YtpkhcehddfmhpaaGreatBas
import Derived.Deep.QuietTactic
import Derived.BigQuiet
import Derived.Deep.DeepCutAuto
namespace Go.Proofs.YtpkhcehddfmhpaaGreat
open Go.RowKit

/-- The head of a message is bad. -/
def headBad (dst src seq : Int) : Bool := decide ((isId dst || decide (dst = 281474976710655)) = false ∨ isId src = false ∨ seq < 0 ∨ 255 < seq)

set_option maxHeartbeats 1000000 in
set_option maxRecDepth 100000 in
theorem chk_any (dst src seq kind par : Int) (dat : ByteArray) (w : World) :
    Calls Tryz.prog 36 #[.agg #[.int .u64 dst, .int .u64 src, .int .i64 seq, .int .i64 kind, .int .i64 par, .string dat]] w
      fun e w' => e = .returned (.int .i64 (chk ⟨dst, src, seq, kind, par, dat⟩)) ∧ Below w.heap.size w w' := by
  obtain ⟨bq, hq⟩ : ∃ b, (dst != 281474976710655) = b := ⟨_, rfl⟩
  go_enter Tryz.func36, Tryz.ntmps36
  go_upto_region 1 with fail
  go_cut [7] (fun s7 wx => s7 = .bool (headBad dst src seq) ∧ wx = w.alloc (.cells #[.int .u64 dst, .int .u64 src, .int .i64 seq, .int .i64 kind, .int .i64 par, .string dat] 52))
  case first =>
    go_wp2_with (first | (go_at_call 81; refine (is_any _ _).mono ?_; rintro e w' ⟨rfl, rfl⟩))
    all_goals go_meet
    all_goals exact ⟨by congr 1; grind [headBad], rfl⟩
  case rest =>
    obtain ⟨rfl, rfl⟩ := hcut
    go_wp2_with (first | (go_at_call 81; refine (is_any _ _).mono ?_; rintro e w' ⟨rfl, rfl⟩) | (go_at_call 82; refine (lengths_any _ _).mono ?_; rintro e w1 ⟨rfl, hb⟩; obtain ⟨hc, hf⟩ := bcell hb))
    all_goals first
      | (go_ret; refine ⟨ret_int ?_, ?_⟩)
      | (exfalso; grind [lenVal, lenHas, lenOf])
      | (have hs : dat.size = 12 := by grind [lenVal, lenHas, lenOf]
         have hk : kind = 1 := by grind
         have s1 : (6 : Int) ≤ (dat.size : Int) := by omega
         have z1 : (dat.extract 0 6).size ≤ 7 := by simp [ByteArray.size_extract]; omega
         have z2 : (dat.extract 6 dat.size).size ≤ 7 := by simp [ByteArray.size_extract]; omega
         have HS := Lib.hid hs
         have HK := Lib.hid hk
         clear hs hk
         go_quiet ((go_at_call 59; refine quiet_left (number_any _ _ ?_); assumption))
         go_wp2_with (go_at_call 81; refine (is_any _ _).mono ?_; rintro e w' ⟨rfl, rfl⟩))
    all_goals try (go_ret; refine ⟨ret_int ?_, ?_⟩)
    all_goals first
      | exact below_after1 hb
      | exact (Below.refl _ _).alloc (Nat.le_refl _) _
      | exact below_drewN (below_after1 hb) _
      | skip
    all_goals try clear hb hc hf
    all_goals try clear s1 z1 z2
    all_goals try have HE : List.take (dat.size - 6) (List.drop 6 dat.data.toList) = List.drop 6 dat.data.toList := List.take_of_length_le (by simp)
    all_goals try have HS' := HS.out
    all_goals try have HK' := HK.out
    all_goals try simp only [HE] at *
    all_goals grind [chk, lenVal, lenHas, lenOf, headBad]

end Go.Proofs.YtpkhcehddfmhpaaGreat
