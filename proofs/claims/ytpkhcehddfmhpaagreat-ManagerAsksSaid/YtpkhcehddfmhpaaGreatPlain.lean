/-
  Plain laws on devices: what was set is read, what is refused changes nothing, devices stay devices, answers match.
-/
import Derived.Test.YtpkhcehddfmhpaaGreatTopW
import Derived.Test.YtpkhcehddfmhpaaGreatRecvD
namespace Go.Proofs.YtpkhcehddfmhpaaGreat
open Go.RowKit

theorem chk_dev (d : Dev) : chkD d = 0 ↔ (isId d.id = true ∧ 1 ≤ d.ft ∧ d.ft ≤ 512 ∧ fitsB d.ad d.ft = true ∧ lblE d.lb = 0 ∧ 0 ≤ d.hr ∧ d.hr ≤ 4294967295) := by
  grind [chkD, bodyBad]

theorem put_refused (d : Dev) (p : Int) (s : ByteArray) (h : 0 ≤ (putD d p s).2) : (putD d p s).1 = d := by
  revert h
  unfold putD
  repeat' split
  all_goals intro h; first | rfl | (exfalso; simp at h)

theorem put_chk (d : Dev) (p : Int) (s : ByteArray) (h : chkD d = 0) : chkD (putD d p s).1 = 0 := by
  obtain ⟨h1, h2, h3, h4, h5, h6, h7⟩ := (chk_dev d).1 h
  have hl : lblE ⟨#[]⟩ = 0 := by decide
  have hf : fitsB 1 d.ft = true := by simp [fitsB]; omega
  unfold putD
  repeat' split
  all_goals first | exact h | skip
  all_goals (refine (chk_dev _).2 ⟨h1, h2, h3, ?_, ?_, h6, h7⟩)
  all_goals simp_all

theorem put_reset (d : Dev) (s : ByteArray) (h : (putD d 4097 s).2 = -1) : (putD d 4097 s).1 = { d with lb := ⟨#[]⟩, ad := 1, idf := false, mu := false } := by
  revert h
  unfold putD
  rw [if_neg (by decide), if_neg (by decide), if_neg (by decide), if_pos rfl]
  repeat' split
  all_goals intro h; first | rfl | (exfalso; simp at h; done)

theorem str_of (s : ByteArray) : str s.data.toList = s := by
  cases s; simp [str]

theorem one_byteP (s : ByteArray) (h : s.size = 1) : s = str [UInt8.ofNat (b0 s)] := by
  have hl : s.data.toList.length = 1 := by simpa using h
  obtain ⟨x, hx⟩ := List.length_eq_one_iff.1 hl
  have : b0 s = x.toNat := by simp [b0, hx]
  rw [this, UInt8.ofNat_toNat, ← hx, str_of]

theorem put_shown (d : Dev) (p : Int) (s : ByteArray) (hp : p ≠ 4097) (h : (putD d p s).2 = -1) : shownD (putD d p s).1 p = (s, -1) ∧ (putD d p s).1.mu = d.mu := by
  revert h
  unfold putD
  repeat' split
  all_goals intro h; first | (exfalso; simp at h; done) | skip
  · rename_i e _ _
    subst e
    exact ⟨rfl, rfl⟩
  · rename_i _ e h1 h2
    subst e
    refine ⟨?_, rfl⟩
    have hs : s.data.toList.length = 2 := by simp at h1; simpa using h1
    show (bytesB (numOf s.data.toList) 2, -1) = (s, -1)
    rw [bytesB, Int.toNat_natCast, show (2 : Int).toNat = s.data.toList.length from by rw [hs]; rfl, bytesOf_numOf, str_of]
  · rename_i _ _ e h1 h2
    subst e
    refine ⟨?_, rfl⟩
    have hs : s.size = 1 := by simpa using h1
    show (flagB (decide (b0 s = 1)), -1) = (s, -1)
    have hb : b0 s = 0 ∨ b0 s = 1 := by omega
    congr 1
    rw [one_byteP s hs]
    rcases hb with hb | hb
    · rw [← one_byteP s hs, hb]; rw [show (decide ((0 : Nat) = 1)) = false from rfl]
      rw [one_byteP s hs, hb]; decide
    · rw [← one_byteP s hs, hb]; rw [show (decide ((1 : Nat) = 1)) = true from rfl]
      rw [one_byteP s hs, hb]; decide

theorem done_chk (d : Dev) (m : Msg) (h : chkD d = 0) : chkD (doneD d m).1 = 0 := by
  have h' := (chk_dev d).1 h
  unfold doneD
  repeat' split
  · exact (chk_dev _).2 h'
  · exact (chk_dev _).2 h'
  · exact h
  · exact put_chk _ _ _ h
  · exact h

theorem recv_chk (d : Dev) (m : Msg) (h : chkD d = 0) : chkD (recvD d m).1 = 0 := by
  unfold recvD
  repeat' split
  all_goals first | exact h | exact done_chk d m h

theorem recv_none (d : Dev) (m : Msg) (h : (recvD d m).2.2 = false) : (recvD d m).2.1 = zeroM := by
  revert h
  unfold recvD
  repeat' split
  all_goals intro h; first | rfl | (exfalso; simp at h)

/-- What is answered. -/
theorem recv_some (d : Dev) (m : Msg) (hd : chkD d = 0) (hm : chk m = 0) (h : (recvD d m).2.2 = true) :
    deafD d m = false ∧ (m.dst = 281474976710655 → m.kind = 1) ∧ chk (recvD d m).2.1 = 0 ∧ (recvD d m).2.1.src = d.id ∧ matchesM m (recvD d m).2.1 = true := by
  have hid := isId_of_chk d hd
  by_cases hk : deafD d m = true
  · rw [recvD, if_pos hk] at h; cases h
  have hk0 : deafD d m = false := by simpa using hk
  have hk1 : ¬ ((m.dst ≠ d.id ∧ m.dst ≠ 281474976710655) ∨ m.kind = 6 ∨ m.kind = 7) := by simpa [deafD] using hk0
  have hrep : isRep m.kind = false := by simp [isRep]; omega
  have hto : m.dst = 281474976710655 ∨ m.dst = d.id := by omega
  have key : ∀ (a : Msg), chk a = 0 → isRep a.kind = true → a.dst = m.src → a.seq = m.seq → a.par = m.par → a.src = d.id → chk a = 0 ∧ a.src = d.id ∧ matchesM m a = true := by
    intro a h1 h2 h3 h4 h5 h6
    exact ⟨h1, h6, by simp [matchesM, hm, h1, hrep, h2, h3, h4, h5, h6]; exact hto⟩
  refine ⟨hk0, ?_⟩
  rw [recvD, if_neg hk] at h ⊢
  by_cases k1 : m.kind = 1
  · rw [if_pos k1] at h ⊢
    by_cases hh : hushD d m = true
    · rw [if_pos hh] at h; cases h
    · rw [if_neg hh]
      have z6 := bytesB_size d.id 6
      exact ⟨fun _ => k1, key _ (chk_replied m d.id _ hm hid (by rw [z6]; decide)) rfl rfl rfl rfl rfl⟩
  · rw [if_neg k1] at h ⊢
    by_cases he : m.dst = 281474976710655
    · rw [if_pos he] at h; cases h
    · rw [if_neg he]
      refine ⟨fun e => absurd e he, ?_⟩
      have hs := done_size (m := m) hd (d' := (doneD d m).1) (s := (doneD d m).2.1) (r := (doneD d m).2.2) rfl
      have hr := done_reason (d := d) (m := m) (d' := (doneD d m).1) (s := (doneD d m).2.1) (r := (doneD d m).2.2) rfl
      show chk (answered m d.id (doneD d m).2.1 (doneD d m).2.2) = 0 ∧ _
      by_cases h0 : 0 ≤ (doneD d m).2.2
      · rw [answered, if_pos h0]
        exact key _ (chk_refused m d.id _ hm hid (bytesB_size _ 1)) rfl rfl rfl rfl rfl
      · rw [answered, if_neg h0]
        exact key _ (chk_replied m d.id _ hm hid hs) rfl rfl rfl rfl rfl

end Go.Proofs.YtpkhcehddfmhpaaGreat
