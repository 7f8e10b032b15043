/-
  The number with some thousandths: the reference.
-/
import Derived.Test.YtndkpdiacabjgaaGreatDoorH5
namespace Go.Proofs.YtndkpdiacabjgaaGreatDoor
open Go.RowKit

def strLen : Value → Nat
  | .string s => s.size
  | _ => 0

theorem enc_digit (m : Nat) (h : m < 10) : Utf8.encode (48 + (m : Int)) = str [UInt8.ofNat (48 + m)] := by
  have hc : m = 0 ∨ m = 1 ∨ m = 2 ∨ m = 3 ∨ m = 4 ∨ m = 5 ∨ m = 6 ∨ m = 7 ∨ m = 8 ∨ m = 9 := by omega
  rcases hc with rfl | rfl | rfl | rfl | rfl | rfl | rfl | rfl | rfl | rfl <;> rfl

/-- What the reference's loop leaves. -/
def DecAt (n0 least k : Nat) : Prop := n0 / 10 ^ k = 0 ∧ least ≤ k ∧ (k ≤ least ∨ 0 < n0 / 10 ^ (k - 1))

theorem pow8 (k n0 : Nat) (h : n0 < 100000000) (h0 : 0 < n0 / 10 ^ k) : k < 8 := by
  refine Nat.lt_of_not_le fun h8 => ?_
  have : 10 ^ 8 ≤ 10 ^ k := Nat.pow_le_pow_right (by decide) h8
  have e : (10 : Nat) ^ 8 = 100000000 := by decide
  rw [Nat.div_eq_of_lt (by omega)] at h0
  omega

theorem dec_three (m k : Nat) (h : m < 1000) (hk : DecAt m 3 k) : decN m k = three m := by
  obtain ⟨h1, h2, h3⟩ := hk
  have : k = 3 := by
    rcases h3 with h3 | h3
    · omega
    · refine Nat.le_antisymm (Nat.le_of_not_lt fun h4 => ?_) h2
      have : 10 ^ 3 ≤ 10 ^ (k - 1) := Nat.pow_le_pow_right (by decide) (by omega)
      have e : (10 : Nat) ^ 3 = 1000 := by decide
      rw [Nat.div_eq_of_lt (by omega)] at h3
      omega
  subst this
  exact (three_decN m h).symm
theorem dec_one (n k : Nat) (hk : DecAt n 1 k) : decN n k = Lib.decDigits n := by
  obtain ⟨h1, h2, h3⟩ := hk
  obtain ⟨j, rfl⟩ : ∃ j, k = j + 1 := ⟨k - 1, by omega⟩
  refine (decDigits_decN j n h1 ?_).symm
  rcases h3 with h3 | h3
  · exact .inl (by omega)
  · exact .inr h3

end Go.Proofs.YtndkpdiacabjgaaGreatDoor
