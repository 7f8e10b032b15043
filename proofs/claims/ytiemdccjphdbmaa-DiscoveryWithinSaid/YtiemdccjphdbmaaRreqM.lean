/-
  The contracts of what the reference answers and seeks.
-/
import Derived.Test.YtiemdccjphdbmaaRchk
import Derived.Test.YtiemdccjphdbmaaMade
import Derived.Test.YtiemdccjphdbmaaBas
namespace Go.Proofs.Ytiemdccjphdbmaa
open Go.RowKit

/-- The message that the reference sends to seek devices. -/
def soughtM (src seq low high : Int) : Msg := ⟨281474976710655, src, seq, 1, 0, bytesB low 6 ++ bytesB high 6⟩
/-- The same, where the range fits. -/
def refdiscM (src seq low high : Int) : Msg := ⟨281474976710655, src, seq, 1, 0, if 281474976710655 < low ∨ 281474976710655 < high then bytesB 0 12 else bytesB low 6 ++ bytesB high 6⟩

theorem bad_two (m : Msg) (hk : m.kind = 1) (hp : m.par = 0) (hs : m.dat.size = 12)
    (hb : isId (numOf (m.dat.data.toList.take 6)) = false ∨ isId (numOf (m.dat.data.toList.drop 6)) = false) : chk m = 2 := by
  unfold chk
  by_cases h : (isId m.dst || decide (m.dst = 281474976710655)) = false ∨ isId m.src = false ∨ m.seq < 0 ∨ 255 < m.seq
  · rw [if_pos h]
  · rw [if_neg h, if_neg (by omega), if_neg (by omega), if_neg (by omega), if_neg (by rw [hk, hs]; simp [lenOf]), if_pos hk, if_pos hb]

theorem two_parts (a b : Int) : (bytesB a 6 ++ bytesB b 6).data.toList = bytesOf a.toNat 6 ++ bytesOf b.toNat 6 := by simp [bytesB, str]
theorem take_part (a b : Int) : (bytesB a 6 ++ bytesB b 6).data.toList.take 6 = bytesOf a.toNat 6 := by
  rw [two_parts, List.take_append_of_le_length (by rw [bytesOf_length]; omega), List.take_of_length_le (by rw [bytesOf_length]; omega)]
theorem drop_part (a b : Int) : (bytesB a 6 ++ bytesB b 6).data.toList.drop 6 = bytesOf b.toNat 6 := by
  rw [two_parts, List.drop_append_of_le_length (by rw [bytesOf_length]; omega), List.drop_of_length_le (by rw [bytesOf_length]; omega), List.nil_append]

theorem right_bad {m : Msg} (h : chk m = 2) : rightM m = (zeroM, 2) := by
  rw [rightM, if_neg (by omega), h]

/-- What is sought, on both sides. -/
theorem disc_eq (src seq low high : Int) (h0 : 0 ≤ low) (h1 : 0 ≤ high) : rightM (refdiscM src seq low high) = rightM (discM src seq low high) := by
  by_cases hi : (isId low && isId high) = true
  · have hl : 0 < low ∧ low < 281474976710655 := by simp [isId] at hi; omega
    have hh : 0 < high ∧ high < 281474976710655 := by simp [isId] at hi; omega
    rw [refdiscM, discM, if_neg (by omega), if_pos hi]
  · have z : (bytesB 0 12).data.toList.take 6 = [0, 0, 0, 0, 0, 0] := by decide +kernel
    have hz : isId (numOf [0, 0, 0, 0, 0, 0] : Nat) = false := by decide +kernel
    have e2 : rightM (discM src seq low high) = (zeroM, 2) := by
      apply right_bad
      rw [discM, if_neg hi]
      exact bad_two _ rfl rfl (by rw [bytesB_size]; rfl) (.inl (by rw [z]; exact hz))
    rw [e2]
    apply right_bad
    rw [refdiscM]
    by_cases hg : 281474976710655 < low ∨ 281474976710655 < high
    · rw [if_pos hg]
      exact bad_two _ rfl rfl (by rw [bytesB_size]; rfl) (.inl (by rw [z]; exact hz))
    · rw [if_neg hg]
      have nl : (numOf (bytesOf low.toNat 6) : Int) = low := numOf_bytes h0 (by omega)
      have nh : (numOf (bytesOf high.toNat 6) : Int) = high := numOf_bytes h1 (by omega)
      refine bad_two _ rfl rfl ?_ ?_
      · rw [ByteArray.size_append, bytesB_size, bytesB_size]; rfl
      · rw [take_part, drop_part, nl, nh]
        cases hL : isId low with
        | false => exact .inl rfl
        | true => exact .inr (by rw [hL] at hi; simpa using hi)

end Go.Proofs.Ytiemdccjphdbmaa
