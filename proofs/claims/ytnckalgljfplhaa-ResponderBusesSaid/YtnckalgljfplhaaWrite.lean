/-
  The contract of what writes a setting.
-/
import Derived.Test.YtnckalgljfplhaaPut
namespace Go.Proofs.Ytnckalgljfplhaa
open Go.RowKit

/-- What a writing leaves. -/
def PutPost (r : Dev × Int) (b : Nat) (w : World) (e : Ending) (w' : World) : Prop := e = .returned (.int .i64 r.2) ∧ DevAt w' b r.1 ∧ Upd b w w'

theorem put_130 (d : Dev) (s : ByteArray) (h : s.size ≤ 32) : putD d 130 s = (renD d s, if renOk s then -1 else 3) := by
  grind [putD, renD, renOk]
theorem put_240 (d : Dev) (s : ByteArray) (h : s.size = 2) : putD d 240 s = (movD d s, if movOk d s then -1 else 3) := by
  grind [putD, movD, movOk]
theorem put_4096 (d : Dev) (s : ByteArray) (h : s.size = 1) : putD d 4096 s = (idfD d s, if idfOk s then -1 else 3) := by
  grind [putD, idfD, idfOk]
theorem put_4097 (d : Dev) (s : ByteArray) (h : s.size = 1) : putD d 4097 s = (rstD d s, if rstOk s then -1 else 3) := by
  grind [putD, rstD, rstOk]

set_option maxHeartbeats 1000000 in
set_option maxRecDepth 100000 in
theorem write_any (b : Nat) (d : Dev) (p : Int) (s : ByteArray) (w : World) (hd : DevAt w b d) (hfine : Fine d) :
    Calls Try.prog 49 #[.pointer (some ⟨b, 0, none⟩), .int .i64 p, .string s] w (PutPost (putD d p s) b w) := by
  obtain ⟨c0, c1, c2, c3, c4, c5, c6, cf, l1, l2, l3, l4, l5⟩ := dev_facts hd
  have q1 := some_set
  have q2 := none_set
  by_cases h1 : p = 80
  · subst h1
    have hft := findT_80
    go_enter Try.func49, Try.ntmps49
    go_wp2_with (go_at_call 67; refine (find_any _ _).mono ?_; rintro e w1 ⟨rfl, hb⟩; obtain ⟨hc, hf, hT1, hT2, hT3, hT4, hz⟩ := bfacts (n := w.heap.size) hb (by first | (simp; done) | (simp; omega) | omega))
    go_ret
    exact ⟨rfl, (hd.below hb l1).alloc _, by (repeat' (first | (with_reducible exact upd_refl _ _) | (with_reducible assumption) | (with_reducible refine upd_drewN ?_ _) | (with_reducible refine upd_drew ?_) | (with_reducible refine upd_set ?_ _ _) | (with_reducible refine upd_far ?_ ?_ _) | (with_reducible refine upd_alloc ?_ _) | (with_reducible refine upd_below ?_ (by assumption)) | (with_reducible refine upd_upd ?_ (by assumption)) | (show _ ≤ _; first | omega | (simp; done) | (simp; omega))))⟩
  by_cases h2 : p = 96
  · subst h2
    have hft := findT_96
    go_enter Try.func49, Try.ntmps49
    go_wp2_with (go_at_call 67; refine (find_any _ _).mono ?_; rintro e w1 ⟨rfl, hb⟩; obtain ⟨hc, hf, hT1, hT2, hT3, hT4, hz⟩ := bfacts (n := w.heap.size) hb (by first | (simp; done) | (simp; omega) | omega))
    go_ret
    exact ⟨rfl, (hd.below hb l1).alloc _, by (repeat' (first | (with_reducible exact upd_refl _ _) | (with_reducible assumption) | (with_reducible refine upd_drewN ?_ _) | (with_reducible refine upd_drew ?_) | (with_reducible refine upd_set ?_ _ _) | (with_reducible refine upd_far ?_ ?_ _) | (with_reducible refine upd_alloc ?_ _) | (with_reducible refine upd_below ?_ (by assumption)) | (with_reducible refine upd_upd ?_ (by assumption)) | (show _ ≤ _; first | omega | (simp; done) | (simp; omega))))⟩
  by_cases h3 : p = 1024
  · subst h3
    have hft := findT_1024
    go_enter Try.func49, Try.ntmps49
    go_wp2_with (go_at_call 67; refine (find_any _ _).mono ?_; rintro e w1 ⟨rfl, hb⟩; obtain ⟨hc, hf, hT1, hT2, hT3, hT4, hz⟩ := bfacts (n := w.heap.size) hb (by first | (simp; done) | (simp; omega) | omega))
    go_ret
    exact ⟨rfl, (hd.below hb l1).alloc _, by (repeat' (first | (with_reducible exact upd_refl _ _) | (with_reducible assumption) | (with_reducible refine upd_drewN ?_ _) | (with_reducible refine upd_drew ?_) | (with_reducible refine upd_set ?_ _ _) | (with_reducible refine upd_far ?_ ?_ _) | (with_reducible refine upd_alloc ?_ _) | (with_reducible refine upd_below ?_ (by assumption)) | (with_reducible refine upd_upd ?_ (by assumption)) | (show _ ≤ _; first | omega | (simp; done) | (simp; omega))))⟩
  by_cases h4 : p = 130
  · subst h4
    have hft := findT_130
    by_cases hs : s.size ≤ 32
    · have hr := put_130 d s hs
      have s1 : (s.size : Int) ≤ 32 := by omega
      obtain ⟨q, hq⟩ : ∃ q, renOk s = q := ⟨_, rfl⟩
      have HS := Lib.hid hs
      have HR := Lib.hid hr
      have HQ := Lib.hid hq
      clear hs hr hq
      go_enter Try.func49, Try.ntmps49
      go_wp2_with (first | (go_at_call 67; refine (find_any _ _).mono ?_; rintro e w1 ⟨rfl, hb⟩; obtain ⟨hc, hf, hT1, hT2, hT3, hT4, hz⟩ := bfacts (n := w.heap.size) hb (by first | (simp; done) | (simp; omega) | omega)) | (go_at_call 82; refine (rename_any _ d _ _ ((hd.below hb l1).alloc _)).mono ?_; rintro e w3 ⟨rfl, hd3, hu⟩; rw [HQ.out]))
      · have h : q = false := by simpa using ‹(!q) = true›
        go_ret
        exact ⟨by rw [HR.out, HQ.out, h]; rfl, by rw [HR.out]; exact hd3, by (repeat' (first | (with_reducible exact upd_refl _ _) | (with_reducible assumption) | (with_reducible refine upd_drewN ?_ _) | (with_reducible refine upd_drew ?_) | (with_reducible refine upd_set ?_ _ _) | (with_reducible refine upd_far ?_ ?_ _) | (with_reducible refine upd_alloc ?_ _) | (with_reducible refine upd_below ?_ (by assumption)) | (with_reducible refine upd_upd ?_ (by assumption)) | (show _ ≤ _; first | omega | (simp; done) | (simp; omega))))⟩
      · have h : q = true := by simpa using ‹(!q) = false›
        go_ret
        exact ⟨by rw [HR.out, HQ.out, h]; rfl, by rw [HR.out]; exact hd3, by (repeat' (first | (with_reducible exact upd_refl _ _) | (with_reducible assumption) | (with_reducible refine upd_drewN ?_ _) | (with_reducible refine upd_drew ?_) | (with_reducible refine upd_set ?_ _ _) | (with_reducible refine upd_far ?_ ?_ _) | (with_reducible refine upd_alloc ?_ _) | (with_reducible refine upd_below ?_ (by assumption)) | (with_reducible refine upd_upd ?_ (by assumption)) | (show _ ≤ _; first | omega | (simp; done) | (simp; omega))))⟩
    · have s1 : (32 : Int) < (s.size : Int) := by omega
      have hr : putD d 130 s = (d, 2) := by grind [putD]
      have HR := Lib.hid hr
      clear hs hr
      go_enter Try.func49, Try.ntmps49
      go_wp2_with (go_at_call 67; refine (find_any _ _).mono ?_; rintro e w1 ⟨rfl, hb⟩; obtain ⟨hc, hf, hT1, hT2, hT3, hT4, hz⟩ := bfacts (n := w.heap.size) hb (by first | (simp; done) | (simp; omega) | omega))
      go_ret
      exact ⟨by rw [HR.out]; rfl, by rw [HR.out]; exact (hd.below hb l1).alloc _, by (repeat' (first | (with_reducible exact upd_refl _ _) | (with_reducible assumption) | (with_reducible refine upd_drewN ?_ _) | (with_reducible refine upd_drew ?_) | (with_reducible refine upd_set ?_ _ _) | (with_reducible refine upd_far ?_ ?_ _) | (with_reducible refine upd_alloc ?_ _) | (with_reducible refine upd_below ?_ (by assumption)) | (with_reducible refine upd_upd ?_ (by assumption)) | (show _ ≤ _; first | omega | (simp; done) | (simp; omega))))⟩
  by_cases h5 : p = 240
  · subst h5
    have hft := findT_240
    by_cases hs : s.size = 2
    · have hr := put_240 d s hs
      have s1 : ((s.size : Int) != 2) = false := by simp; omega
      obtain ⟨q, hq⟩ : ∃ q, movOk d s = q := ⟨_, rfl⟩
      have HS := Lib.hid hs
      have HR := Lib.hid hr
      have HQ := Lib.hid hq
      clear hs hr hq
      go_enter Try.func49, Try.ntmps49
      go_wp2_with (first | (go_at_call 67; refine (find_any _ _).mono ?_; rintro e w1 ⟨rfl, hb⟩; obtain ⟨hc, hf, hT1, hT2, hT3, hT4, hz⟩ := bfacts (n := w.heap.size) hb (by first | (simp; done) | (simp; omega) | omega)) | (go_at_call 84; refine (move_any _ d _ _ ((hd.below hb l1).alloc _) hfine (HS.out)).mono ?_; rintro e w3 ⟨rfl, hd3, hu⟩; rw [HQ.out]))
      · have h : q = false := by simpa using ‹(!q) = true›
        go_ret
        exact ⟨by rw [HR.out, HQ.out, h]; rfl, by rw [HR.out]; exact hd3, by (repeat' (first | (with_reducible exact upd_refl _ _) | (with_reducible assumption) | (with_reducible refine upd_drewN ?_ _) | (with_reducible refine upd_drew ?_) | (with_reducible refine upd_set ?_ _ _) | (with_reducible refine upd_far ?_ ?_ _) | (with_reducible refine upd_alloc ?_ _) | (with_reducible refine upd_below ?_ (by assumption)) | (with_reducible refine upd_upd ?_ (by assumption)) | (show _ ≤ _; first | omega | (simp; done) | (simp; omega))))⟩
      · have h : q = true := by simpa using ‹(!q) = false›
        go_ret
        exact ⟨by rw [HR.out, HQ.out, h]; rfl, by rw [HR.out]; exact hd3, by (repeat' (first | (with_reducible exact upd_refl _ _) | (with_reducible assumption) | (with_reducible refine upd_drewN ?_ _) | (with_reducible refine upd_drew ?_) | (with_reducible refine upd_set ?_ _ _) | (with_reducible refine upd_far ?_ ?_ _) | (with_reducible refine upd_alloc ?_ _) | (with_reducible refine upd_below ?_ (by assumption)) | (with_reducible refine upd_upd ?_ (by assumption)) | (show _ ≤ _; first | omega | (simp; done) | (simp; omega))))⟩
    · have s1 : ((s.size : Int) != 2) = true := by simp; omega
      have hr : putD d 240 s = (d, 2) := by grind [putD]
      have HR := Lib.hid hr
      clear hs hr
      go_enter Try.func49, Try.ntmps49
      go_wp2_with (go_at_call 67; refine (find_any _ _).mono ?_; rintro e w1 ⟨rfl, hb⟩; obtain ⟨hc, hf, hT1, hT2, hT3, hT4, hz⟩ := bfacts (n := w.heap.size) hb (by first | (simp; done) | (simp; omega) | omega))
      go_ret
      exact ⟨by rw [HR.out]; rfl, by rw [HR.out]; exact (hd.below hb l1).alloc _, by (repeat' (first | (with_reducible exact upd_refl _ _) | (with_reducible assumption) | (with_reducible refine upd_drewN ?_ _) | (with_reducible refine upd_drew ?_) | (with_reducible refine upd_set ?_ _ _) | (with_reducible refine upd_far ?_ ?_ _) | (with_reducible refine upd_alloc ?_ _) | (with_reducible refine upd_below ?_ (by assumption)) | (with_reducible refine upd_upd ?_ (by assumption)) | (show _ ≤ _; first | omega | (simp; done) | (simp; omega))))⟩
  by_cases h6 : p = 4096
  · subst h6
    have hft := findT_4096
    by_cases hs : s.size = 1
    · have hr := put_4096 d s hs
      have s1 : ((s.size : Int) != 1) = false := by simp; omega
      obtain ⟨q, hq⟩ : ∃ q, idfOk s = q := ⟨_, rfl⟩
      have HS := Lib.hid hs
      have HR := Lib.hid hr
      have HQ := Lib.hid hq
      clear hs hr hq
      go_enter Try.func49, Try.ntmps49
      go_wp2_with (first | (go_at_call 67; refine (find_any _ _).mono ?_; rintro e w1 ⟨rfl, hb⟩; obtain ⟨hc, hf, hT1, hT2, hT3, hT4, hz⟩ := bfacts (n := w.heap.size) hb (by first | (simp; done) | (simp; omega) | omega)) | (go_at_call 88; refine (identify_any _ d _ _ ((hd.below hb l1).alloc _) (HS.out)).mono ?_; rintro e w3 ⟨rfl, hd3, hu⟩; rw [HQ.out]))
      · have h : q = false := by simpa using ‹(!q) = true›
        go_ret
        exact ⟨by rw [HR.out, HQ.out, h]; rfl, by rw [HR.out]; exact hd3, by (repeat' (first | (with_reducible exact upd_refl _ _) | (with_reducible assumption) | (with_reducible refine upd_drewN ?_ _) | (with_reducible refine upd_drew ?_) | (with_reducible refine upd_set ?_ _ _) | (with_reducible refine upd_far ?_ ?_ _) | (with_reducible refine upd_alloc ?_ _) | (with_reducible refine upd_below ?_ (by assumption)) | (with_reducible refine upd_upd ?_ (by assumption)) | (show _ ≤ _; first | omega | (simp; done) | (simp; omega))))⟩
      · have h : q = true := by simpa using ‹(!q) = false›
        go_ret
        exact ⟨by rw [HR.out, HQ.out, h]; rfl, by rw [HR.out]; exact hd3, by (repeat' (first | (with_reducible exact upd_refl _ _) | (with_reducible assumption) | (with_reducible refine upd_drewN ?_ _) | (with_reducible refine upd_drew ?_) | (with_reducible refine upd_set ?_ _ _) | (with_reducible refine upd_far ?_ ?_ _) | (with_reducible refine upd_alloc ?_ _) | (with_reducible refine upd_below ?_ (by assumption)) | (with_reducible refine upd_upd ?_ (by assumption)) | (show _ ≤ _; first | omega | (simp; done) | (simp; omega))))⟩
    · have s1 : ((s.size : Int) != 1) = true := by simp; omega
      have hr : putD d 4096 s = (d, 2) := by grind [putD]
      have HR := Lib.hid hr
      clear hs hr
      go_enter Try.func49, Try.ntmps49
      go_wp2_with (go_at_call 67; refine (find_any _ _).mono ?_; rintro e w1 ⟨rfl, hb⟩; obtain ⟨hc, hf, hT1, hT2, hT3, hT4, hz⟩ := bfacts (n := w.heap.size) hb (by first | (simp; done) | (simp; omega) | omega))
      go_ret
      exact ⟨by rw [HR.out]; rfl, by rw [HR.out]; exact (hd.below hb l1).alloc _, by (repeat' (first | (with_reducible exact upd_refl _ _) | (with_reducible assumption) | (with_reducible refine upd_drewN ?_ _) | (with_reducible refine upd_drew ?_) | (with_reducible refine upd_set ?_ _ _) | (with_reducible refine upd_far ?_ ?_ _) | (with_reducible refine upd_alloc ?_ _) | (with_reducible refine upd_below ?_ (by assumption)) | (with_reducible refine upd_upd ?_ (by assumption)) | (show _ ≤ _; first | omega | (simp; done) | (simp; omega))))⟩
  by_cases h7 : p = 4097
  · subst h7
    have hft := findT_4097
    by_cases hs : s.size = 1
    · have hr := put_4097 d s hs
      have s1 : ((s.size : Int) != 1) = false := by simp; omega
      obtain ⟨q, hq⟩ : ∃ q, rstOk s = q := ⟨_, rfl⟩
      have HS := Lib.hid hs
      have HR := Lib.hid hr
      have HQ := Lib.hid hq
      clear hs hr hq
      go_enter Try.func49, Try.ntmps49
      go_wp2_with (first | (go_at_call 67; refine (find_any _ _).mono ?_; rintro e w1 ⟨rfl, hb⟩; obtain ⟨hc, hf, hT1, hT2, hT3, hT4, hz⟩ := bfacts (n := w.heap.size) hb (by first | (simp; done) | (simp; omega) | omega)) | (go_at_call 89; refine (reset_any _ d _ _ ((hd.below hb l1).alloc _) (HS.out)).mono ?_; rintro e w3 ⟨rfl, hd3, hu⟩; rw [HQ.out]))
      · have h : q = false := by simpa using ‹(!q) = true›
        go_ret
        exact ⟨by rw [HR.out, HQ.out, h]; rfl, by rw [HR.out]; exact hd3, by (repeat' (first | (with_reducible exact upd_refl _ _) | (with_reducible assumption) | (with_reducible refine upd_drewN ?_ _) | (with_reducible refine upd_drew ?_) | (with_reducible refine upd_set ?_ _ _) | (with_reducible refine upd_far ?_ ?_ _) | (with_reducible refine upd_alloc ?_ _) | (with_reducible refine upd_below ?_ (by assumption)) | (with_reducible refine upd_upd ?_ (by assumption)) | (show _ ≤ _; first | omega | (simp; done) | (simp; omega))))⟩
      · have h : q = true := by simpa using ‹(!q) = false›
        go_ret
        exact ⟨by rw [HR.out, HQ.out, h]; rfl, by rw [HR.out]; exact hd3, by (repeat' (first | (with_reducible exact upd_refl _ _) | (with_reducible assumption) | (with_reducible refine upd_drewN ?_ _) | (with_reducible refine upd_drew ?_) | (with_reducible refine upd_set ?_ _ _) | (with_reducible refine upd_far ?_ ?_ _) | (with_reducible refine upd_alloc ?_ _) | (with_reducible refine upd_below ?_ (by assumption)) | (with_reducible refine upd_upd ?_ (by assumption)) | (show _ ≤ _; first | omega | (simp; done) | (simp; omega))))⟩
    · have s1 : ((s.size : Int) != 1) = true := by simp; omega
      have hr : putD d 4097 s = (d, 2) := by grind [putD]
      have HR := Lib.hid hr
      clear hs hr
      go_enter Try.func49, Try.ntmps49
      go_wp2_with (go_at_call 67; refine (find_any _ _).mono ?_; rintro e w1 ⟨rfl, hb⟩; obtain ⟨hc, hf, hT1, hT2, hT3, hT4, hz⟩ := bfacts (n := w.heap.size) hb (by first | (simp; done) | (simp; omega) | omega))
      go_ret
      exact ⟨by rw [HR.out]; rfl, by rw [HR.out]; exact (hd.below hb l1).alloc _, by (repeat' (first | (with_reducible exact upd_refl _ _) | (with_reducible assumption) | (with_reducible refine upd_drewN ?_ _) | (with_reducible refine upd_drew ?_) | (with_reducible refine upd_set ?_ _ _) | (with_reducible refine upd_far ?_ ?_ _) | (with_reducible refine upd_alloc ?_ _) | (with_reducible refine upd_below ?_ (by assumption)) | (with_reducible refine upd_upd ?_ (by assumption)) | (show _ ≤ _; first | omega | (simp; done) | (simp; omega))))⟩
  have hft := findT_other p h1 h2 h4 h5 h3 h6 h7
  have hr : putD d p s = (d, 0) := by
    unfold putD
    rw [if_neg h4, if_neg h5, if_neg h6, if_neg h7, if_neg (by rintro (h | h | h) <;> contradiction)]
  have HR := Lib.hid hr
  clear hr h1 h2 h3 h4 h5 h6 h7
  go_enter Try.func49, Try.ntmps49
  go_wp2_with (go_at_call 67; refine (find_any _ _).mono ?_; rintro e w1 ⟨rfl, hb⟩; obtain ⟨hc, hf, hT1, hT2, hT3, hT4, hz⟩ := bfacts (n := w.heap.size) hb (by first | (simp; done) | (simp; omega) | omega))
  go_ret
  exact ⟨by rw [HR.out]; rfl, by rw [HR.out]; exact (hd.below hb l1).alloc _, by (repeat' (first | (with_reducible exact upd_refl _ _) | (with_reducible assumption) | (with_reducible refine upd_drewN ?_ _) | (with_reducible refine upd_drew ?_) | (with_reducible refine upd_set ?_ _ _) | (with_reducible refine upd_far ?_ ?_ _) | (with_reducible refine upd_alloc ?_ _) | (with_reducible refine upd_below ?_ (by assumption)) | (with_reducible refine upd_upd ?_ (by assumption)) | (show _ ≤ _; first | omega | (simp; done) | (simp; omega))))⟩

end Go.Proofs.Ytnckalgljfplhaa
