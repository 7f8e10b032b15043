/-
  Plain laws that join the bytes of a text to what is decoded of them.
-/
import Derived.Test.YtdklpmaeajpacaaDoorSum
namespace Go.Proofs.YtdklpmaeajpacaaDoor

theorem byteAt_get (s : ByteArray) (k : Nat) (h : k < s.size) : byteAt s.data.toList k = s[k].toNat := by
  unfold byteAt
  rw [List.getD_eq_getElem?_getD, List.getElem?_eq_getElem (by simpa using h)]
  rfl

theorem list_two (l : List UInt8) (h : 2 ≤ l.length) : l.take 2 = [l[0], l[1]] := by
  match l, h with
  | a :: b :: t, _ => rfl

theorem head_iff (s : ByteArray) (h : 2 ≤ s.size) : s.data.toList.take 2 = [204, 1] ↔ s[0].toNat = 204 ∧ s[1].toNat = 1 := by
  rw [list_two _ (by simpa using h)]
  show [s[0], s[1]] = [204, 1] ↔ _
  constructor
  · intro e
    simp only [List.cons.injEq, and_true] at e
    rw [e.1, e.2]
    exact ⟨rfl, rfl⟩
  · rintro ⟨e1, e2⟩
    have f1 : s[0] = 204 := UInt8.toNat_inj.1 e1
    have f2 : s[1] = 1 := UInt8.toNat_inj.1 e2
    rw [f1, f2]

theorem numOf_two (a b : UInt8) : numOf [a, b] = a.toNat * 256 + b.toNat := by
  simp [numOf]

theorem bytes_two (d : List UInt8) (h : d.length = 2) : bytesOf (numOf d) 2 = d := by
  match d, h with
  | [a, b], _ =>
    have ha := a.toNat_lt
    have hb := b.toNat_lt
    rw [numOf_two, bytesOf_two, show (a.toNat * 256 + b.toNat) / 256 = a.toNat from by omega, ← ofNat_mod (a.toNat * 256 + b.toNat), show (a.toNat * 256 + b.toNat) % 256 = b.toNat from by omega]
    simp

theorem two_iff (d : List UInt8) (n : Nat) (h : d.length = 2) : d = bytesOf n 2 ↔ numOf d = n % 65536 := by
  constructor
  · intro e
    rw [e, numOf_bytesOf]
  · intro e
    have := bytes_two d h
    rw [e, bytesOf_mod] at this
    exact this.symm

theorem extract_list (s : ByteArray) (a b : Nat) : (s.extract a b).data.toList = seg s.data.toList a b := by
  simp [seg]

theorem drop_seg (s : ByteArray) (a : Nat) : s.data.toList.drop a = (s.extract a s.size).data.toList := by
  rw [extract_list, seg, List.take_of_length_le]
  simp
theorem take_seg (s : ByteArray) (a : Nat) : s.data.toList.take a = (s.extract 0 a).data.toList := by
  rw [extract_list, seg, List.drop_zero, Nat.sub_zero]

/-- The sum of the bytes ahead of the last two. -/
def sumBad (s : ByteArray) (n : Nat) : Bool := decide (numOf (s.extract (19 + n) (21 + n)).data.toList ≠ sumN (s.extract 0 (19 + n)).data.toList % 65536)

/-- What is decoded, by the bytes of the text. -/
theorem decM_eq (s : ByteArray) (n : Nat) (h21 : 21 ≤ s.size) (hn : s[18].toNat = n) : decM s.data.toList =
    if s[0].toNat ≠ 204 ∨ s[1].toNat ≠ 1 then (zeroM, 3) else if s.size < 21 + n then (zeroM, 20) else if 21 + n < s.size then (zeroM, 13)
    else if sumBad s n then (zeroM, 17) else rightM (msgL s.data.toList) := by
  have hl : s.data.toList.length = s.size := by simp
  have hb : byteAt s.data.toList 18 = n := by rw [byteAt_get s 18 (by omega), hn]
  unfold decM
  have hh := head_iff s (by omega)
  rw [hl, if_neg (by omega), hb]
  by_cases h1 : s[0].toNat = 204 ∧ s[1].toNat = 1
  · have hq : ¬ (s[0].toNat ≠ 204 ∨ s[1].toNat ≠ 1) := by rw [not_or]; exact ⟨not_not_intro h1.1, not_not_intro h1.2⟩
    rw [if_neg (not_not_intro (hh.2 h1)), if_neg hq]
    by_cases h2 : s.size < 21 + n
    · rw [if_pos h2, if_pos h2]
    · rw [if_neg h2, if_neg h2]
      by_cases h3 : 21 + n < s.size
      · rw [if_pos h3, if_pos h3]
      · have hs : s.size = 21 + n := by omega
        rw [if_neg h3, if_neg h3, drop_seg, take_seg, hs]
        have h2 : (s.extract (19 + n) (21 + n)).data.toList.length = 2 := by simp [hs]; omega
        have e := two_iff _ (sumN (s.extract 0 (19 + n)).data.toList) h2
        by_cases h4 : (s.extract (19 + n) (21 + n)).data.toList = bytesOf (sumN (s.extract 0 (19 + n)).data.toList) 2
        · rw [if_neg (not_not_intro h4), if_neg]
          simpa [sumBad] using e.1 h4
        · rw [if_pos h4, if_pos]
          simpa [sumBad] using fun he => h4 (e.2 he)
  · rw [if_pos fun e => h1 (hh.1 e), if_pos]
    by_cases h5 : s[0].toNat = 204
    · exact .inr fun h6 => h1 ⟨h5, h6⟩
    · exact .inl h5

theorem one_byte (s : ByteArray) (k : Nat) (h : k < s.size) : numOf (s.extract k (k + 1)).data.toList = s[k].toNat := by
  have hl : k < s.data.toList.length := by simpa using h
  rw [extract_list, seg, List.drop_eq_getElem_cons hl, show k + 1 - k = 1 from by omega]
  simp [numOf]
  rfl

/-- The message of the bytes of a text, by its pieces. -/
theorem msgL_eq (s : ByteArray) (n : Nat) (h21 : 21 ≤ s.size) (hn : s[18].toNat = n) : msgL s.data.toList =
    ⟨numOf (s.extract 2 8).data.toList, numOf (s.extract 8 14).data.toList, s[14].toNat, s[15].toNat, numOf (s.extract 16 18).data.toList, s.extract 19 (19 + n)⟩ := by
  have hb : byteAt s.data.toList 18 = n := by rw [byteAt_get s 18 (by omega), hn]
  rw [msgL, byteAt_get s 14 (by omega), byteAt_get s 15 (by omega), hb, ← extract_list, ← extract_list, ← extract_list, ← extract_list, str_list]

/-- What is decoded, as the program reckons it. -/
theorem decM_run (s : ByteArray) (n : Nat) (q : Bool) (h21 : 21 ≤ s.size) (hn : numOf (s.extract 18 19).data.toList = n) (hq : ((s.extract 0 2).toList == [204, 1]) = q) : decM s.data.toList =
    if q = false then (zeroM, 3) else if s.size < 21 + n then (zeroM, 20) else if 21 + n < s.size then (zeroM, 13)
    else if (s.extract (19 + n) s.size).data.toList ≠ (bytesB (sumN (s.extract 0 (19 + n)).data.toList : Nat) 2).data.toList then (zeroM, 17)
    else rightM ⟨numOf (s.extract 2 8).data.toList, numOf (s.extract 8 14).data.toList, numOf (s.extract 14 15).data.toList, numOf (s.extract 15 16).data.toList, numOf (s.extract 16 18).data.toList, s.extract 19 (19 + n)⟩ := by
  have h18 := one_byte s 18 (by omega)
  rw [hn] at h18
  have hb : byteAt s.data.toList 18 = n := by rw [byteAt_get s 18 (by omega), h18]
  have hl : s.data.toList.length = s.size := by simp
  have ht : (s.extract 0 2).toList = s.data.toList.take 2 := by rw [ByteArray.toList_eq, take_seg]
  unfold decM
  rw [hl, if_neg (by omega), hb, msgL_eq s n h21 h18.symm, ← drop_seg, ← take_seg, bytesB, one_byte s 14 (by omega), one_byte s 15 (by omega)]
  rw [ht] at hq
  have e2 : (str (bytesOf ((sumN (List.take (19 + n) s.data.toList) : Nat) : Int).toNat (2 : Int).toNat)).data.toList = bytesOf (sumN (List.take (19 + n) s.data.toList)) 2 := by simp [str]
  rw [e2]
  cases q
  · have h1 : ¬ List.take 2 s.data.toList = [204, 1] := by simpa using hq
    rw [if_pos h1, if_pos rfl]
  · have h1 : List.take 2 s.data.toList = [204, 1] := by simpa using hq
    rw [if_neg (not_not_intro h1), if_neg (show ¬ (true = false) by simp)]

end Go.Proofs.YtdklpmaeajpacaaDoor
