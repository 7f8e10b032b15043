/-
  Contracts of the loops that turn bytes into numbers, and numbers into bytes.
-/
import Derived.Test.YtdklpmaeajpacaaDoorIds
namespace Go.Proofs.YtdklpmaeajpacaaDoor
open Go.RowKit

theorem take_snoc (s : ByteArray) (k : Nat) (h : k < s.size) : s.data.toList.take (k + 1) = s.data.toList.take k ++ [s[k]] := by
  rw [List.take_succ_eq_append_getElem (by simpa using h)]; rfl

theorem numOf_take_lt (s : ByteArray) (k : Nat) (hk : k ≤ 7) : numOf (s.data.toList.take k) < 72057594037927936 := by
  have h := numOf_lt (s.data.toList.take k)
  have h2 : (s.data.toList.take k).length ≤ k := List.length_take_le _ _
  have h3 : 256 ^ (s.data.toList.take k).length ≤ 256 ^ 7 := Nat.pow_le_pow_right (by omega) (by omega)
  have h4 : (256 : Nat) ^ 7 = 72057594037927936 := by decide
  omega

theorem num_add (a : Nat) (b : UInt8) (h : a < 72057594037927936) : IntKind.u64.wrap (256 * (a : Int) + IntKind.u64.wrap (b.toNat : Int)) = ((a * 256 + b.toNat : Nat) : Int) := by
  have := b.toNat_lt
  rw [IntWalk.u64_in (b.toNat : Int) (by omega), IntWalk.u64_in _ (by omega)]
  omega

theorem num_or (a : Nat) (b : UInt8) (h : a < 72057594037927936) : bits BinOp.or .u64 ((a : Int) * 256) (IntKind.u64.wrap (b.toNat : Int)) = ((a * 256 + b.toNat : Nat) : Int) := by
  have hb := b.toNat_lt
  rw [IntWalk.u64_in (b.toNat : Int) (by omega)]
  have h1 : ((a : Int) * 256) = ((a * 256 : Nat) : Int) := by omega
  rw [h1, bits_or_u64_nat _ _ (by omega) (by omega)]
  have h2 := Nat.two_pow_add_eq_or_of_lt (i := 8) (b := b.toNat) (by omega) a
  rw [show a * 256 = 2 ^ 8 * a from by omega, ← h2]

set_option maxHeartbeats 400000 in
theorem refnumber_any (s : ByteArray) (w : World) (hs : s.size ≤ 7) :
    Calls Tryd.prog 60 #[.string s] w fun e w' => e = .returned (.int .u64 (numOf s.data.toList)) ∧ w = w' := by
  go_enter Tryd.func60, Tryd.ntmps60
  go_wp2
  go_loop [3, 4] (fun n i => ∃ k : Nat, k ≤ s.size ∧ i = .int .i64 k ∧ n = .int .u64 (numOf (s.data.toList.take k))) (fun _ i => s.size - (intOf i).toNat)
  case atStart => exact ⟨0, Nat.zero_le _, rfl, rfl⟩
  case round =>
    obtain ⟨k, hk, rfl, rfl⟩ := hrel
    by_cases hlt : k < s.size
    · have hb := numOf_take_lt s k (by omega)
      have hsn := numOf_snoc (s.data.toList.take k) s[k]
      have hts := take_snoc s k hlt
      have HS : Hid (numOf (s.data.toList.take (k + 1)) = numOf (s.data.toList.take k) * 256 + s[k].toNat) := by rw [hts]; exact hsn
      clear hsn hts
      go_wp2
      go_round
      case rel => exact ⟨k + 1, by omega, by go_num, by rw [HS.out, num_add _ _ hb]⟩
      case measure => simp [intOf]; omega
    · go_wp2
      go_ret
      exact ⟨ret_int (by rw [List.take_of_length_le (by simp; omega)]), rfl⟩

set_option maxHeartbeats 400000 in
theorem number_any (s : ByteArray) (w : World) (hs : s.size ≤ 7) :
    Calls Tryd.prog 57 #[.string s] w fun e w' => e = .returned (.int .u64 (numOf s.data.toList)) ∧ w = w' := by
  go_enter Tryd.func57, Tryd.ntmps57
  go_wp2
  go_loop [3, 7] (fun n i => ∃ k : Nat, k ≤ s.size ∧ i = .int .i64 k ∧ n = .int .u64 (numOf (s.data.toList.take k))) (fun _ i => s.size - (intOf i).toNat)
  case atStart => exact ⟨0, Nat.zero_le _, rfl, rfl⟩
  case round =>
    obtain ⟨k, hk, rfl, rfl⟩ := hrel
    by_cases hlt : k < s.size
    · have hb := numOf_take_lt s k (by omega)
      have hsn := numOf_snoc (s.data.toList.take k) s[k]
      have hts := take_snoc s k hlt
      have HS : Hid (numOf (s.data.toList.take (k + 1)) = numOf (s.data.toList.take k) * 256 + s[k].toNat) := by rw [hts]; exact hsn
      clear hsn hts
      go_wp2
      go_round
      case rel => exact ⟨k + 1, by omega, by go_num, by rw [HS.out, num_or _ _ hb]⟩
      case measure => simp [intOf]; omega
    · go_wp2
      go_ret
      exact ⟨ret_int (by rw [List.take_of_length_le (by simp; omega)]), rfl⟩
end Go.Proofs.YtdklpmaeajpacaaDoor
