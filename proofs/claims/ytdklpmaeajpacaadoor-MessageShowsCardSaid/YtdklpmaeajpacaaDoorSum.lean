/-
  The sums of bytes, and the reference's bytes.
-/
import Derived.Test.YtdklpmaeajpacaaDoorPl46
import Derived.Test.YtdklpmaeajpacaaDoorFar
import Derived.Outline
namespace Go.Proofs.YtdklpmaeajpacaaDoor
open Go.RowKit

theorem sumN_snoc (s : ByteArray) (k : Nat) (h : k < s.size) : sumN (s.data.toList.take (k + 1)) = sumN (s.data.toList.take k) + s[k].toNat := by
  rw [take_snoc s k h, sumN_append, sumN_cons, sumN_nil]
  omega
theorem sumN_take (s : ByteArray) (k : Nat) : sumN (s.data.toList.take k) ≤ 255 * k := by
  refine Nat.le_trans (sumN_le _) ?_
  have := List.length_take_le k s.data.toList
  omega

theorem sum_add (a : Nat) (b : UInt8) (h : a < 1000000000000) : IntKind.u64.wrap ((a : Int) + IntKind.u64.wrap (b.toNat : Int)) = ((a + b.toNat : Nat) : Int) := by
  have hb := b.toNat_lt
  rw [IntWalk.u64_in (b.toNat : Int) (by omega), IntWalk.u64_in _ (by omega)]
  omega

set_option maxHeartbeats 400000 in
theorem sum_any (s : ByteArray) (w : World) (hs : s.size ≤ 100000) :
    Calls Tryd.prog 53 #[.string s] w fun e w' => e = .returned (.string (bytesB (sumN s.data.toList) 2)) ∧ Below w.heap.size w w' := by
  have hall := sumN_take s s.size
  rw [List.take_of_length_le (by simp)] at hall
  have hb := bytes_any (sumN s.data.toList : Nat) 2 w (by omega) (by omega) (by omega) (by omega)
  go_enter Tryd.func53, Tryd.ntmps53
  go_wp2
  go_loop [3, 7] (fun n i => ∃ k : Nat, k ≤ s.size ∧ i = .int .i64 k ∧ n = .int .u64 (sumN (s.data.toList.take k))) (fun _ i => s.size - (intOf i).toNat)
  case atStart => exact ⟨0, Nat.zero_le _, rfl, rfl⟩
  case round =>
    obtain ⟨k, hk, rfl, rfl⟩ := hrel
    by_cases hlt : k < s.size
    · have hb := sumN_take s k
      have hsn := sumN_snoc s k hlt
      have HS : Hid (sumN (s.data.toList.take (k + 1)) = sumN (s.data.toList.take k) + s[k].toNat) := hsn
      clear hsn
      go_wp2
      go_round
      case rel => exact ⟨k + 1, by omega, by go_num, by rw [HS.out, sum_add _ _ (by omega)]⟩
      case measure => simp [intOf]; omega
    · obtain rfl : k = s.size := by omega
      rw [List.take_of_length_le (by simp)]
      go_wp2_with (go_at_call 44; refine (hb).mono ?_; rintro e w' ⟨rfl, hb⟩)
      go_ret
      exact ⟨rfl, hb⟩

theorem refsum_add (a : Nat) (b : UInt8) : ((a % 65536 : Nat) : Int) + IntKind.i64.wrap (b.toNat : Int) = ((a % 65536 + b.toNat : Nat) : Int) := by
  have hb := b.toNat_lt
  rw [IntWalk.i64_in (b.toNat : Int) (by omega)]
  omega

set_option maxHeartbeats 400000 in
theorem refsum_any (s : ByteArray) (w : World) (hs : s.size ≤ 100000) :
    Calls Tryd.prog 63 #[.string s] w fun e w' => e = .returned (.int .i64 ((sumN s.data.toList % 65536 : Nat) : Int)) ∧ w = w' := by
  go_enter Tryd.func63, Tryd.ntmps63
  go_wp2
  go_loop [3, 4] (fun n i => ∃ k : Nat, k ≤ s.size ∧ i = .int .i64 k ∧ n = .int .i64 ((sumN (s.data.toList.take k) % 65536 : Nat) : Int)) (fun _ i => s.size - (intOf i).toNat)
  case atStart => exact ⟨0, Nat.zero_le _, rfl, rfl⟩
  case round =>
    obtain ⟨k, hk, rfl, rfl⟩ := hrel
    by_cases hlt : k < s.size
    · have HS : Hid (sumN (s.data.toList.take (k + 1)) = sumN (s.data.toList.take k) + s[k].toNat) := sumN_snoc s k hlt
      have hb := s[k].toNat_lt
      generalize hq : sumN (s.data.toList.take k) % 65536 = q
      have hq2 : q < 65536 := by omega
      have HQ : Hid (sumN (s.data.toList.take k) % 65536 = q) := hq
      clear hq
      go_wp2
      go_round
      case rel => exact ⟨k + 1, by omega, by go_num, by have h1 := HS.out; have h2 := HQ.out; rw [h1]; congr 1; simp; omega⟩
      case measure => simp [intOf]; omega
    · obtain rfl : k = s.size := by omega
      rw [List.take_of_length_le (by simp)]
      go_wp2
      go_ret
      exact ⟨rfl, rfl⟩

set_option maxHeartbeats 400000 in
set_option maxRecDepth 100000 in
theorem mbytes_nat (n c : Nat) (w : World) (hn : n < 18446744073709551616) (hc : c ≤ 100) :
    Calls Tryd.prog 72 #[.int .u64 n, .int .i64 c] w fun e w' => e = .returned (.string (str (bytesOf n c))) ∧ Below w.heap.size w w' := by
  go_enter Tryd.func72, Tryd.ntmps72
  go_wp2
  go_loopw [0, 5, 6] (fun x s i wr => ∃ k m : Nat, k ≤ c ∧ i = .int .i64 k ∧ x = .int .u64 m ∧ s = .string (str (bytesOf n k)) ∧ Hid (m = n / 256 ^ k) ∧ m < 18446744073709551616 ∧ Below w.heap.size w wr) (fun _ _ i _ => c - (intOf i).toNat)
  case atStart => exact ⟨0, n, Nat.zero_le _, rfl, rfl, rfl, by simp [Hid], hn, Below.refl _ _⟩
  case round =>
    obtain ⟨k, m, hk, rfl, rfl, rfl, hm, hmlt, hbel⟩ := hrel
    by_cases hlt : k < c
    · have hcv := conv_one wr m
      have hs1 := str_size [UInt8.ofNat m]
      have hs2 : (str (bytesOf n k)).size ≤ 100 := by rw [str_size, bytesOf_length]; omega
      go_wp2
      go_roundw
      case rel => exact ⟨k + 1, m / 256, by omega, by go_num, by go_num, by rw [str_cons, hm.out, bytesOf_cons], by rw [hm.out, Nat.div_div_eq_div_mul, ← Nat.pow_succ]; rfl, by omega, hbel.alloc hbel.size _⟩
      case measure => simp [intOf]; omega
    · obtain rfl : k = c := by omega
      go_wp2
      go_ret
      exact ⟨rfl, hbel⟩

end Go.Proofs.YtdklpmaeajpacaaDoor
