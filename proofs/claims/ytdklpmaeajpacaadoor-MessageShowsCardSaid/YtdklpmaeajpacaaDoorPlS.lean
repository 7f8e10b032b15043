/-
  What the law on shown texts rests on: texts over each other, in whatever order, and their bits.
-/
import Derived.Test.YtdklpmaeajpacaaDoorOvr
import Derived.Test.YtdklpmaeajpacaaDoorShs
namespace Go.Proofs.YtdklpmaeajpacaaDoor
open Go.RowKit

theorem lists_append (l m : List ByteArray) : lists (l ++ m) = lists l ++ lists m := List.map_append
theorem lists_reverse (l : List ByteArray) : lists l.reverse = (lists l).reverse := List.map_reverse

theorem not_tooLong {l : List ByteArray} (h : l.any longS = false) : l.any tooLong = false := by
  rw [List.any_eq_false] at h ⊢
  intro s hs
  have := h s hs
  simp [longS] at this
  simp [tooLong]
  omega

/-- What is shown by texts that are few and short. -/
theorem over_few {l : List ByteArray} (h : l.length ≤ 64) (h1 : l.any longS = false) : overM l = (str (overL (lists l)), 0) := by
  rw [overM, if_neg (by omega), if_neg (by rw [not_tooLong h1]; simp)]

theorem over_back {l : List ByteArray} (h : l.length ≤ 64) (h1 : l.any longS = false) : overM l.reverse = (str (overL (lists l)), 0) := by
  rw [over_few (by simpa using h) (by simpa using h1), lists_reverse, overL_reverse]

theorem over_more {l : List ByteArray} (h : l.length ≤ 63) (h1 : l.any longS = false) : overM (l.reverse ++ [⟨#[]⟩]) = (str (overL (lists l)), 0) := by
  rw [over_few (by simp; omega) (by simp [h1]; simp [longS]; decide), lists_append, overL_append, lists_reverse, overL_reverse]
  show (str (orL _ (overL [[]])), 0) = _
  rw [overL_cons, overL_nil, orL_nil, orL_nil]

theorem over_one {l : List ByteArray} {s : ByteArray} (hs : s ∈ l) (h1 : l.any longS = false) : overM [s] = (s, 0) := by
  rw [List.any_eq_false] at h1
  have h2 := h1 s hs
  rw [over_few (by simp) (by simpa using h2)]
  show (str (overL [s.data.toList]), 0) = _
  rw [overL_cons, overL_nil, orL_nil]
  rfl

theorem over_size {l : List ByteArray} {s : ByteArray} (hs : s ∈ l) : s.size ≤ (overL (lists l)).length := by
  have := overL_length_ge (lists l) s.data.toList (List.mem_map.2 ⟨s, hs, rfl⟩)
  simpa using this

theorem over_has {l : List (List UInt8)} {s : List UInt8} (hs : s ∈ l) (i : Nat) : (overL l).getD i 0 ||| s.getD i 0 = (overL l).getD i 0 := by
  induction l with
  | nil => cases hs
  | cons b l ih =>
    rw [overL_cons, orL_getD]
    rcases List.mem_cons.1 hs with rfl | h
    · rw [or_comm8 _ (s.getD i 0), ← or_assoc8, UInt8.or_self]
    · rw [or_assoc8, ih h]

theorem and_of_or {x y : UInt8} (h : x ||| y = x) : x &&& y = y := by
  rw [← h]
  apply UInt8.toBitVec_inj.1
  ext i hi
  simp
  intro h1
  exact .inr h1

/-- The bits of the first texts at one place. -/
def bitsAt (l : List ByteArray) (k i : Nat) : UInt8 := (accL l k).getD i 0

theorem bitsAt_zero (l : List ByteArray) (i : Nat) : bitsAt l 0 i = 0 := by simp [bitsAt, accL_zero]
theorem bitsAt_in {l : List ByteArray} {k i : Nat} {s : ByteArray} (h : l[k]? = some s) (hi : i < s.size) : bitsAt l (k + 1) i = bitsAt l k i ||| s[i] := by
  rw [bitsAt, accL_succ h, orL_getD, List.getD_eq_getElem?_getD (l := s.data.toList), List.getElem?_eq_getElem (by simpa using hi)]
  rfl
theorem bitsAt_out {l : List ByteArray} {k i : Nat} {s : ByteArray} (h : l[k]? = some s) (hi : ¬ i < s.size) : bitsAt l (k + 1) i = bitsAt l k i := by
  rw [bitsAt, accL_succ h, orL_getD, List.getD_eq_getElem?_getD (l := s.data.toList), List.getElem?_eq_none (by simpa using hi)]
  show _ ||| (0 : UInt8) = _
  rw [UInt8.or_zero]
  rfl
theorem bitsAt_all (l : List ByteArray) (i : Nat) (h : i < (overL (lists l)).length) : bitsAt l l.length i = (overL (lists l))[i] := by
  rw [bitsAt, accL, List.take_length, List.getD_eq_getElem?_getD, List.getElem?_eq_getElem h]
  rfl

theorem over_and {l : List ByteArray} {s : ByteArray} (hs : s ∈ l) (i : Nat) (hi : i < s.size) (h : i < (overL (lists l)).length) : (overL (lists l))[i] &&& s[i] = s[i] := by
  have := and_of_or (over_has (l := lists l) (s := s.data.toList) (List.mem_map.2 ⟨s, hs, rfl⟩) i)
  rw [List.getD_eq_getElem?_getD, List.getD_eq_getElem?_getD, List.getElem?_eq_getElem h, List.getElem?_eq_getElem (by simpa using hi)] at this
  exact this

end Go.Proofs.YtdklpmaeajpacaaDoor
