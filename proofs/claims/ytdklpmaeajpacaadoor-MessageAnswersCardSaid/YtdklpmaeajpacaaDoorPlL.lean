/-
  What the laws of chapter 46 rest on: ranges, answers and their readings.
-/
import Derived.Test.YtdklpmaeajpacaaDoorRreq
import Derived.Test.YtdklpmaeajpacaaDoorPlD
namespace Go.Proofs.YtdklpmaeajpacaaDoor
open Go.RowKit

theorem right_ok {m A : Msg} (h : rightM m = (A, 0)) : A = m ∧ chk m = 0 := by
  unfold rightM at h
  split at h
  · rename_i hk
    cases h
    exact ⟨rfl, hk⟩
  · rename_i hk
    exact absurd (Prod.mk.inj h).2 hk

theorem disc_bad (src seq low high : Int) (hi : ¬ (isId low && isId high) = true) : chk (discM src seq low high) = 2 := by
  have z : (bytesB 0 12).data.toList.take 6 = [0, 0, 0, 0, 0, 0] := by decide +kernel
  have hz : isId (numOf [0, 0, 0, 0, 0, 0] : Nat) = false := by decide +kernel
  rw [discM, if_neg hi]
  exact bad_two _ rfl rfl (by rw [bytesB_size]; rfl) (.inl (by rw [z]; exact hz))

/-- A range that is sought is the range that is read. -/
theorem disc_range {src seq low high : Int} {A : Msg} (h : rightM (discM src seq low high) = (A, 0)) : rangeM A = (low, high, 0) ∧ A.dst = 281474976710655 := by
  obtain ⟨rfl, hk⟩ := right_ok h
  refine ⟨?_, rfl⟩
  by_cases hi : (isId low && isId high) = true
  · have hl : 0 < low ∧ low < 281474976710655 := by simp [isId] at hi; omega
    have hh : 0 < high ∧ high < 281474976710655 := by simp [isId] at hi; omega
    have nl : (numOf (bytesOf low.toNat 6) : Int) = low := numOf_bytes (by omega) (by omega)
    have nh : (numOf (bytesOf high.toNat 6) : Int) = high := numOf_bytes (by omega) (by omega)
    rw [rangeM, if_neg (by omega), if_neg (by rw [discM]; simp)]
    rw [lowM, highM, discM, if_pos hi]
    simp only []
    rw [take_part, drop_part, nl, nh]
  · rw [disc_bad _ _ _ _ hi] at hk
    cases hk

/-- What is known of an answer, and of a refusal. -/
structure Ans (m A : Msg) (id : Int) : Prop where
  ca : chk A = 0
  cm : chk m = 0
  kk : isRep m.kind = false
  rr : isRep A.kind = true
  dd : A.dst = m.src
  qq : A.seq = m.seq
  pp : A.par = m.par
  ss : A.src = id

theorem req_ok {m : Msg} (h : reqE m = 0) : chk m = 0 ∧ isRep m.kind = false := by
  unfold reqE at h
  split at h
  · contradiction
  · rename_i hk
    split at h
    · cases h
    · rename_i hr
      exact ⟨by simpa using hk, by simpa using hr⟩

theorem answer_ok {m A : Msg} {id : Int} {s : ByteArray} (h : answerM m id s = (A, 0)) : Ans m A id := by
  unfold answerM at h
  split at h
  · rename_i hk
    exact absurd (Prod.mk.inj h).2 hk
  · rename_i hk
    obtain ⟨h1, h2⟩ := req_ok (Classical.not_not.1 hk)
    obtain ⟨rfl, h3⟩ := right_ok h
    exact ⟨h3, h1, h2, rfl, rfl, rfl, rfl, rfl⟩

theorem refuse_ok46 {m A : Msg} {id r : Int} (h : refuseM m id r = (A, 0)) : Ans m A id := by
  unfold refuseM at h
  split at h
  · rename_i hk
    exact absurd (Prod.mk.inj h).2 hk
  · rename_i hk
    split at h
    · cases (Prod.mk.inj h).2
    · obtain ⟨h1, h2⟩ := req_ok (Classical.not_not.1 hk)
      obtain ⟨rfl, h3⟩ := right_ok h
      exact ⟨h3, h1, h2, rfl, rfl, rfl, rfl, rfl⟩

theorem Ans.fits {m A : Msg} {id : Int} (h : Ans m A id) : matchesM m A = (decide (m.dst = 281474976710655) || decide (m.dst = id)) := by
  simp [matchesM, h.ca, h.cm, h.kk, h.rr, h.dd, h.qq, h.pp, h.ss]

theorem Ans.not {m A : Msg} {id : Int} (h : Ans m A id) : matchesM A m = false := by
  simp [matchesM, h.ca, h.cm, h.rr]

theorem Ans.none {m A : Msg} {id : Int} (h : Ans m A id) (x : Int) (s : ByteArray) : answerM A x s = (zeroM, 16) := by
  simp [answerM, reqE, h.ca, h.rr]

/-- A list as a text, and back. -/
theorem str_toList (l : List UInt8) : (str l).data.toList = l := by simp [str]

theorem enc_ok {m : Msg} {s : ByteArray} (h : encM m = (s, 0)) : s = str (madeL m) ∧ chk m = 0 := by
  unfold encM at h
  split at h
  · rename_i hk
    exact absurd (Prod.mk.inj h).2 hk
  · rename_i hk
    exact ⟨(Prod.mk.inj h).1.symm, Classical.not_not.1 hk⟩

theorem read_cut (s : ByteArray) (k : Nat) : (s.extract 0 k).data.toList = s.data.toList.take k := by
  rw [extract_list]; simp [seg]

theorem read_more (s : ByteArray) (x : UInt8) : (s ++ ⟨#[x]⟩).data.toList = s.data.toList ++ [x] := by simp

theorem read_set (s : ByteArray) (i : Nat) (x : UInt8) (h : i < s.size) : ((s.extract 0 i ++ str [x]) ++ s.extract (i + 1) s.size).data.toList = s.data.toList.set i x := by
  have hl : s.size = s.data.toList.length := by simp
  have e1 := extract_list s 0 i
  have e2 := extract_list s (i + 1) s.size
  have e3 : ((s.extract 0 i ++ str [x]) ++ s.extract (i + 1) s.size).data.toList = (s.extract 0 i).data.toList ++ [x] ++ (s.extract (i + 1) s.size).data.toList := by simp [str]
  rw [e3, e1, e2, hl]
  simp only [seg, List.drop_zero, Nat.sub_zero]
  rw [List.take_of_length_le (l := List.drop _ _) (by rw [List.length_drop]; omega), List.set_eq_take_append_cons_drop, if_pos (by omega)]
  simp

end Go.Proofs.YtdklpmaeajpacaaDoor
