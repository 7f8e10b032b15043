/-
  A number's hexadecimal digits: what strconv.FormatUint writes at base 16.
-/
import Derived.Test.YtdklpmaeajpacaaDoorByt
import Derived.Outline
import Derived.Deep.RegionHeld
namespace Go.Proofs.YtdklpmaeajpacaaDoor
open Go.RowKit

/-- A hexadecimal digit. -/
def hexDig (d : Nat) : UInt8 := if d < 10 then UInt8.ofNat (48 + d) else UInt8.ofNat (87 + d)
/-- The last `c` hexadecimal digits of a number. -/
def hexOf (n : Nat) : Nat → List UInt8
  | 0 => []
  | c + 1 => hexOf (n / 16) c ++ [hexDig (n % 16)]

theorem hexOf_length (n c : Nat) : (hexOf n c).length = c := by
  induction c generalizing n with
  | zero => rfl
  | succ c ih => simp [hexOf, ih]

theorem hexOf_cons (n c : Nat) : hexOf n (c + 1) = hexDig (n / 16 ^ c % 16) :: hexOf n c := by
  induction c generalizing n with
  | zero => simp [hexOf]
  | succ c ih =>
    rw [hexOf, ih, List.cons_append, show n / 16 / 16 ^ c = n / 16 ^ (c + 1) from by rw [Nat.div_div_eq_div_mul, Nat.pow_succ, Nat.mul_comm]]
    rfl

/-- Of the 65 places the last `k` hold digits. -/
def hexTail (n k : Nat) : List UInt8 := List.replicate (65 - k) 0 ++ hexOf n k
theorem hexTail_length (n k : Nat) (hk : k ≤ 65) : (hexTail n k).length = 65 := by simp [hexTail, hexOf_length]; omega
theorem hexTail_succ (n k : Nat) (hk : k < 65) : (hexTail n k).set (64 - k) (hexDig (n / 16 ^ k % 16)) = hexTail n (k + 1) := by
  rw [hexTail, show 65 - k = (64 - k) + 1 from by omega, List.replicate_succ', List.append_assoc, List.set_append_right _ _ (by simp), List.length_replicate, Nat.sub_self, hexTail, hexOf_cons, show 65 - (k + 1) = 64 - k from by omega]
  rfl

theorem hexTail_drop (n k : Nat) (hk : k < 65) : (hexTail n (k + 1)).drop (64 - k) = hexOf n (k + 1) := by
  rw [hexTail, show 65 - (k + 1) = 64 - k from by omega, List.drop_append_of_le_length (by simp), List.drop_of_length_le (by simp), List.nil_append]

theorem conv_tail (w : World) (l : List UInt8) (T off n : Nat) (hl : l.length = off + n) :
    (convert 47 9 (.slice (some ⟨w.heap.size, off, none⟩) n n)).run Tryd.prog (w.alloc (.cells (u8s l) T)) = .ok (.string (str (l.drop off))) (w.alloc (.cells (u8s l) T)) := by
  rw [← strOfNums_bytes]
  refine run_convert_bytes_arg (w.alloc (.cells (u8s l) T)) 47 5 Tryd.underlying47 Tryd.underlying5 w.heap.size off n n _ (by simp; omega) (fun i hi => ?_) 9 Tryd.underlying9
  rw [cell_of_row _ w.heap.size (off + i) (u8s l) T (0, 0) (heap_alloc_new w _)]
  simp [u8s, List.getElem?_map, List.getElem?_eq_getElem (show off + i < l.length by omega), List.getElem?_drop]

def digits36 : ByteArray := ⟨#[48, 49, 50, 51, 52, 53, 54, 55, 56, 57, 97, 98, 99, 100, 101, 102, 103, 104, 105, 106, 107, 108, 109, 110, 111, 112, 113, 114, 115, 116, 117, 118, 119, 120, 121, 122]⟩
theorem digits36_get : ∀ d : Fin 16, digits36[d.val]'(Nat.lt_trans d.isLt (by decide)) = hexDig d.val := by decide
theorem digit_is (d : Nat) (h : d < 16) (h2 : d < digits36.size) : digits36[d]'h2 = hexDig d := digits36_get ⟨d, h⟩

theorem and_15 (m : Nat) (hm : m < 18446744073709551616) : bits BinOp.and .u64 (m : Int) 15 = ((m % 16 : Nat) : Int) := by
  have h := bits_and_u64_nat m 15 hm (by omega)
  rw [show (15 : Int) = ((15 : Nat) : Int) from rfl, h]
  congr 1
  exact Nat.and_two_pow_sub_one_eq_mod m 4

set_option maxHeartbeats 1000000 in
set_option maxRecDepth 100000 in
theorem tz16 (w : World) (h : w.cell? ⟨6, 15, none⟩ = some (.int .u8 4)) :
    Calls Tryd.prog 109 #[.int .u64 16] w fun e w' => e = .returned (.int .i64 4) ∧ w = w' := by
  have hb1 : bits BinOp.and IntKind.u64 16 (IntKind.u64.wrap (-16)) = 16 := by decide +kernel
  have hb2 : IntKind.u64.wrap 4573923408821661840 = 4573923408821661840 := by decide +kernel
  go_enter Tryd.func109, Tryd.ntmps109
  go_wp2
  go_ret
  exact ⟨rfl, rfl⟩

theorem zero65 (n : Nat) : Tryd.zeroCells137 = u8s (hexTail n 0) := by
  rw [show hexTail n 0 = List.replicate 65 0 from by simp [hexTail, hexOf]]
  kernel_rfl

set_option maxHeartbeats 1000000 in
set_option maxRecDepth 100000 in
theorem fmtBits16 (n : Nat) (w : World) (hn : n < 18446744073709551616) (h : w.cell? ⟨6, 15, none⟩ = some (.int .u8 4)) :
    Calls Tryd.prog 94 #[.slice none 0 0, .int .u64 n, .int .i64 16, .bool false, .bool false] w fun e w' => ∃ c, e = .returned (.tuple #[.slice none 0 0, .string (str (hexOf n c))]) ∧ 1 ≤ c ∧ n / 16 ^ c = 0 ∧ (c = 1 ∨ 0 < n / 16 ^ (c - 1)) ∧ Below w.heap.size w w' := by
  have hb0 : bits BinOp.and IntKind.i64 16 15 = 0 := by decide +kernel
  have htz := tz16 (w.alloc (.cells (u8s (hexTail n 0)) 137)) (by rw [World.cell?_alloc_some w _ _ (by rw [h]; rfl)]; exact h)
  go_enter Tryd.func94, Tryd.ntmps94
  go_wp2_with (first | (go_at_call 108; fail))
  rw [zero65 n]
  go_wp2_with (first | (go_at_call 108; go_in) | (go_at_call 109; refine htz.mono ?_; rintro e w' ⟨rfl, rfl⟩))
  clear htz h hb0
  go_loopw [1, 13] (fun u i wr => ∃ k m : Nat, k ≤ 15 ∧ u = .int .u64 m ∧ i = .int .i64 ((65 - k : Nat) : Int) ∧ Hid (m = n / 16 ^ k) ∧ m < 18446744073709551616 ∧ Hid (k = 0 ∨ 16 ≤ n / 16 ^ (k - 1)) ∧ wr = w.alloc (.cells (u8s (hexTail n k)) 137)) (fun u _ _ => (intOf u).toNat)
  case atStart => exact ⟨0, n, by omega, rfl, rfl, by simp [Hid], hn, .inl rfl, rfl⟩
  case round =>
    obtain ⟨k, m, hk, rfl, rfl, hm, hm2, hp, rfl⟩ := hrel
    have hand := and_15 m hm2
    by_cases hlt : 16 ≤ m
    · have hlti : (16 : Int) ≤ (m : Int) := by omega
      have q1 : IntKind.i64.wrap (((65 - k : Nat) : Int) - 1) = ((64 - k : Nat) : Int) := by rw [IntWalk.i64_in _ (by omega)]; omega
      obtain ⟨v, hv⟩ : ∃ v, (u8s (hexTail n k))[64 - k]? = some v := ⟨_, Array.getElem?_eq_getElem (by simp [u8s, hexTail_length n k (by omega)]; omega)⟩
      go_wp2
      go_roundw
      case rel =>
        refine ⟨k + 1, m / 16, ?_, by go_num, by go_num, by rw [hm.out, Nat.div_div_eq_div_mul, ← Nat.pow_succ]; rfl, by omega, .inr (by rw [Nat.add_sub_cancel, ← hm.out]; exact hlt), ?_⟩
        · by_cases hk15 : k = 15
          · subst hk15
            have := hm.out
            omega
          · omega
        · rw [← hexTail_succ n k (by omega), ← u8s_set]
          congr 3
          show Value.int .u8 ((digits36[m % 16]'(Nat.lt_trans (Nat.mod_lt _ (by decide)) (by decide))).toNat : Int) = _
          rw [digit_is _ (Nat.mod_lt _ (by decide)), hm.out]
      case measure => simp [intOf]; omega
    · have hlti : (m : Int) < 16 := by omega
      have q1 : IntKind.i64.wrap (((65 - k : Nat) : Int) - 1) = ((64 - k : Nat) : Int) := by rw [IntWalk.i64_in _ (by omega)]; omega
      obtain ⟨v, hv⟩ : ∃ v, (u8s (hexTail n k))[64 - k]? = some v := ⟨_, Array.getElem?_eq_getElem (by simp [u8s, hexTail_length n k (by omega)]; omega)⟩
      have q4 : ((64 - k : Nat) : Int) ≤ 65 := by omega
      have q5 : 64 - k ≤ 65 := by omega
      have hmd : m < digits36.size := Nat.lt_trans (show m < 16 by omega) (by decide)
      have e0 : (u8s (hexTail n k)).setIfInBounds (64 - k) (.int .u8 ((digits36[m]'hmd).toNat : Int)) = u8s (hexTail n (k + 1)) := by
        rw [digit_is _ (by omega), u8s_set, ← hexTail_succ n k (by omega), ← hm.out, Nat.mod_eq_of_lt (by omega)]
      have hcv := conv_tail w (hexTail n (k + 1)) 137 (64 - k) (65 - (64 - k)) (by rw [hexTail_length _ _ (by omega)]; omega)
      rw [← e0, hexTail_drop n k (by omega)] at hcv
      simp only [digits36] at hcv
      clear e0
      go_wp2
      go_ret2
      refine ⟨k + 1, rfl, by omega, ?_, ?_, by (repeat' (first | (with_reducible exact Below.refl _ _) | (with_reducible assumption) | (with_reducible refine below_drewN ?_ _) | (with_reducible refine Below.drew ?_) | (with_reducible refine Below.setCell ?_ ?_ _) | (with_reducible refine Below.alloc ?_ ?_ _) | (with_reducible refine below_after ?_ ?_ (by assumption)) | (show _ ≤ _; first | omega | (simp; done) | (simp; omega))))⟩
      · rw [Nat.pow_succ, ← Nat.div_div_eq_div_mul, ← hm.out]; omega
      · rcases hp.out with h0 | h0
        · exact .inl (by omega)
        · refine .inr ?_
          rw [Nat.add_sub_cancel]
          obtain ⟨j, rfl⟩ : ∃ j, k = j + 1 := ⟨k - 1, by
            rcases k with _ | k
            · exfalso; have := hm.out; simp at this h0; omega
            · rfl⟩
          rw [Nat.add_sub_cancel] at h0
          rw [Nat.pow_succ, ← Nat.div_div_eq_div_mul]
          omega

end Go.Proofs.YtdklpmaeajpacaaDoor
