/-
  Plain laws on searches and on muting.
-/
import Derived.Test.YtnckalgljfplhaaPlain
namespace Go.Proofs.Ytnckalgljfplhaa
open Go.RowKit

theorem numOf_append_left (l m : List UInt8) (k : Nat) (h : l.length = k) : ((l ++ m).take k) = l ∧ ((l ++ m).drop k) = m := by
  subst h
  simp

theorem bytesB_data (n c : Int) : (bytesB n c).data.toList = bytesOf n.toNat c.toNat := by simp [bytesB, str]

theorem num_six (n : Int) (h0 : 0 ≤ n) (h1 : n < 281474976710656) : (numOf (bytesOf n.toNat 6) : Int) = n := by
  rw [numOf_bytesOf, Nat.mod_eq_of_lt (by omega)]
  omega

theorem seek_ends (src seq low high : Int) (h0 : isId low = true) (h1 : isId high = true) :
    lowM ⟨281474976710655, src, seq, 1, 0, bytesB low 6 ++ bytesB high 6⟩ = low ∧ highM ⟨281474976710655, src, seq, 1, 0, bytesB low 6 ++ bytesB high 6⟩ = high := by
  have a0 : 0 < low ∧ low < 281474976710655 := by simpa [isId] using h0
  have a1 : 0 < high ∧ high < 281474976710655 := by simpa [isId] using h1
  have hd : (bytesB low 6 ++ bytesB high 6).data.toList = bytesOf low.toNat 6 ++ bytesOf high.toNat 6 := by
    have b0 : (bytesB low 6).data.toList = bytesOf low.toNat 6 := bytesB_data low 6
    have b1 : (bytesB high 6).data.toList = bytesOf high.toNat 6 := bytesB_data high 6
    rw [← b0, ← b1]
    simp
  obtain ⟨e1, e2⟩ := numOf_append_left (bytesOf low.toNat 6) (bytesOf high.toNat 6) 6 (bytesOf_length _ _)
  unfold lowM highM
  simp only [hd, e1, e2]
  exact ⟨num_six low (by omega) (by omega), num_six high (by omega) (by omega)⟩

theorem disc_ok (src seq low high : Int) (h : chk (discM src seq low high) = 0) :
    isId low = true ∧ isId high = true ∧ discM src seq low high = ⟨281474976710655, src, seq, 1, 0, bytesB low 6 ++ bytesB high 6⟩ := by
  by_cases hi : isId low = true ∧ isId high = true
  · exact ⟨hi.1, hi.2, by simp [discM, hi.1, hi.2]⟩
  · exfalso
    have hz : discM src seq low high = ⟨281474976710655, src, seq, 1, 0, bytesB 0 12⟩ := by
      cases h1 : isId low <;> cases h2 : isId high <;> simp_all [discM]
    rw [hz] at h
    have e1 : isId (numOf ((bytesB 0 12).data.toList.take 6)) = false := by decide
    grind [chk]

theorem hide_on (d : Dev) (k : Int) (hk : k = 2 ∨ k = 3) (h : chkD d = 0) : receiveD d ⟨d.id, 9, 0, k, 0, ⟨#[]⟩⟩ = ({ d with mu := decide (k = 2) }, ⟨9, d.id, 0, 6, 0, ⟨#[]⟩⟩, true, 0) := by
  have hid := isId_of_chk d h
  have hne : d.id ≠ 281474976710655 := by
    have : 0 < d.id ∧ d.id < 281474976710655 := by simpa [isId] using hid
    omega
  have hsz : (⟨#[]⟩ : ByteArray).size = 0 := rfl
  have h9 : isId 9 = true := by decide
  have hc : chk ⟨d.id, 9, 0, k, 0, ⟨#[]⟩⟩ = 0 := by
    rcases hk with rfl | rfl <;> simp [chk, hid, h9, hsz, lenOf]
  refine receiveD_ok h hc ?_
  rcases hk with rfl | rfl <;> simp [recvD, deafD, hne, doneD, answered, replied]

theorem seek_recv (d : Dev) (src seq : Int) (dat : ByteArray) (h : chkD d = 0) (hm : chk ⟨281474976710655, src, seq, 1, 0, dat⟩ = 0) :
    receiveD d ⟨281474976710655, src, seq, 1, 0, dat⟩ = if hushD d ⟨281474976710655, src, seq, 1, 0, dat⟩ then (d, zeroM, false, 0) else (d, ⟨src, d.id, seq, 6, 0, bytesB d.id 6⟩, true, 0) := by
  by_cases hh : hushD d ⟨281474976710655, src, seq, 1, 0, dat⟩ = true
  · rw [if_pos hh]
    refine receiveD_ok h hm ?_
    simp [recvD, deafD, hh]
  · rw [if_neg hh]
    refine receiveD_ok h hm ?_
    simp [recvD, deafD, hh, replied]

theorem chk_mu (d : Dev) (q : Bool) (h : chkD d = 0) : chkD { d with mu := q } = 0 := (chk_dev _).2 ((chk_dev d).1 h)

end Go.Proofs.Ytnckalgljfplhaa
