/-
  The reference's number with some thousandths; Of of both sides.
-/
import Derived.Test.YtndkpdiacabjgaaGreatDoorI5
namespace Go.Proofs.YtndkpdiacabjgaaGreatDoor
open Go.RowKit

theorem three_len (m : Nat) : (three m).length = 3 := rfl

theorem take_last (l : List UInt8) (j : Nat) (h : j < l.length) (hs : j < (str (l.take (j + 1))).size) : (str (l.take (j + 1)))[j]'hs = l[j] := by
  show (str (l.take (j + 1))).data[j]'hs = l[j]
  simp [str]

theorem zeros_more {l : List UInt8} {i : Nat} (hi : i < l.length) (h48 : l[i] = 48) (hz : ∀ (j : Nat) b, i + 1 ≤ j → l[j]? = some b → b = 48) : ∀ (j : Nat) b, i ≤ j → l[j]? = some b → b = 48 := fun j b hj hb => by
  rcases Nat.lt_or_eq_of_le hj with h | h
  · exact hz j b h hb
  · subst h
    rw [List.getElem?_eq_getElem hi] at hb
    injection hb with hb
    rw [← hb]; exact h48

theorem str_empty (l : List UInt8) : (str l).toList.isEmpty = l.isEmpty := by rw [Lib.toList_data, str_data]

end Go.Proofs.YtndkpdiacabjgaaGreatDoor
