/-
  The contracts of what sets the settings of a device.
  The contract of what writes a setting.
-/
import Derived.Test.YtpkhcehddfmhpaaGreatGet
import Derived.Test.YtpkhcehddfmhpaaGreatBas
namespace Go.Proofs.YtpkhcehddfmhpaaGreat
open Go.RowKit

/-- The first byte of a text. -/
def b0 (s : ByteArray) : Nat := (s.data.toList.getD 0 0).toNat

theorem b0_eq (s : ByteArray) (h : 0 < s.size) : b0 s = (s[0]'h).toNat := by
  unfold b0
  congr 1
  rw [List.getD_eq_getElem?_getD, List.getElem?_eq_getElem (by simpa using h)]
  rfl

/-- The device with another setting, and the reason for which it is refused, or -1. -/
def putD (d : Dev) (p : Int) (s : ByteArray) : Dev × Int :=
  if p = 130 then (if 32 < s.size then (d, 2) else if lblE s ≠ 0 then (d, 3) else ({ d with lb := s }, -1))
  else if p = 240 then (if s.size ≠ 2 then (d, 2) else if fitsB (numOf s.data.toList) d.ft = false then (d, 3) else ({ d with ad := numOf s.data.toList }, -1))
  else if p = 4096 then (if s.size ≠ 1 then (d, 2) else if 1 < b0 s then (d, 3) else ({ d with idf := decide (b0 s = 1) }, -1))
  else if p = 4097 then (if s.size ≠ 1 then (d, 2) else if b0 s ≠ 255 then (d, 3) else ({ d with lb := ⟨#[]⟩, ad := 1, idf := false, mu := false }, -1))
  else if p = 80 ∨ p = 96 ∨ p = 1024 then (d, 1) else (d, 0)

/-- What a setter leaves. -/
def SetPost (ok : Bool) (d' : Dev) (b : Nat) (w : World) (e : Ending) (w' : World) : Prop := e = .returned (.bool ok) ∧ DevAt w' b d' ∧ Upd b w w'

def renOk (s : ByteArray) : Bool := decide (lblE s = 0)
def renD (d : Dev) (s : ByteArray) : Dev := if lblE s = 0 then { d with lb := s } else d
def idfOk (s : ByteArray) : Bool := decide (b0 s ≤ 1)
def idfD (d : Dev) (s : ByteArray) : Dev := if b0 s ≤ 1 then { d with idf := decide (b0 s = 1) } else d
def rstOk (s : ByteArray) : Bool := decide (b0 s = 255)
def rstD (d : Dev) (s : ByteArray) : Dev := if b0 s = 255 then { d with lb := ⟨#[]⟩, ad := 1, idf := false, mu := false } else d
def movOk (d : Dev) (s : ByteArray) : Bool := fitsB (numOf s.data.toList) d.ft
def movD (d : Dev) (s : ByteArray) : Dev := if fitsB (numOf s.data.toList) d.ft then { d with ad := numOf s.data.toList } else d

set_option maxHeartbeats 1000000 in
set_option maxRecDepth 100000 in
theorem rename_any (b : Nat) (d : Dev) (s : ByteArray) (w : World) (hd : DevAt w b d) :
    Calls Tryz.prog 194 #[.pointer (some ⟨b, 0, none⟩), .string s] w (SetPost (renOk s) (renD d s) b w) := by
  obtain ⟨c0, c1, c2, c3, c4, c5, c6, cf, l1, l2, l3, l4, l5⟩ := dev_facts hd
  obtain ⟨n, hn⟩ : ∃ n, lblE s = n := ⟨_, rfl⟩
  have HN := Lib.hid hn
  go_enter Tryz.func194, Tryz.ntmps194
  go_wp2_with (go_at_call 114; refine (label_any _ _).mono ?_; rintro e w1 ⟨rfl, hb⟩; obtain ⟨hc, hf, hT1, hT2, hT3, hT4, hz⟩ := bfacts (n := w.heap.size) hb (by first | (simp; done) | (simp; omega) | omega))
  · have h : n ≠ 0 := ne_of_bne (by assumption)
    go_ret
    exact ⟨ret_bool (by simp [renOk, HN.out, h]), by simpa [renD, HN.out, h] using hd.below hb l1, by (repeat' (first | (with_reducible exact upd_refl _ _) | (with_reducible assumption) | (with_reducible refine upd_drewN ?_ _) | (with_reducible refine upd_drew ?_) | (with_reducible refine upd_set ?_ _ _) | (with_reducible refine upd_far ?_ ?_ _) | (with_reducible refine upd_alloc ?_ _) | (with_reducible refine upd_below ?_ (by assumption)) | (with_reducible refine upd_upd ?_ (by assumption)) | (show _ ≤ _; first | omega | (simp; done) | (simp; omega))))⟩
  · have h : n = 0 := eq_of_bne (by assumption)
    go_ret
    exact ⟨ret_bool (by simp [renOk, HN.out, h]), by simpa [renD, HN.out, h] using (hd.below hb l1).set (d' := { d with lb := s }) rfl, by (repeat' (first | (with_reducible exact upd_refl _ _) | (with_reducible assumption) | (with_reducible refine upd_drewN ?_ _) | (with_reducible refine upd_drew ?_) | (with_reducible refine upd_set ?_ _ _) | (with_reducible refine upd_far ?_ ?_ _) | (with_reducible refine upd_alloc ?_ _) | (with_reducible refine upd_below ?_ (by assumption)) | (with_reducible refine upd_upd ?_ (by assumption)) | (show _ ≤ _; first | omega | (simp; done) | (simp; omega))))⟩

set_option maxHeartbeats 1000000 in
set_option maxRecDepth 100000 in
theorem identify_any (b : Nat) (d : Dev) (s : ByteArray) (w : World) (hd : DevAt w b d) (hs : s.size = 1) :
    Calls Tryz.prog 200 #[.pointer (some ⟨b, 0, none⟩), .string s] w (SetPost (idfOk s) (idfD d s) b w) := by
  obtain ⟨c0, c1, c2, c3, c4, c5, c6, cf, l1, l2, l3, l4, l5⟩ := dev_facts hd
  have h0 : 0 < s.size := by omega
  have s0 : (0 : Int) < (s.size : Int) := by omega
  have hb0 := Lib.hid (b0_eq s h0)
  have HS := Lib.hid hs
  clear hs
  obtain ⟨bq, hbq⟩ : ∃ q, (((s[0]'h0).toNat : Int) == 1) = q := ⟨_, rfl⟩
  go_enter Tryz.func200, Tryz.ntmps200
  go_wp2
  · go_ret
    have h : ¬ b0 s ≤ 1 := by rw [hb0.out]; omega
    exact ⟨ret_bool (by simp [idfOk, h]), by simpa [idfD, h] using hd, by (repeat' (first | (with_reducible exact upd_refl _ _) | (with_reducible assumption) | (with_reducible refine upd_drewN ?_ _) | (with_reducible refine upd_drew ?_) | (with_reducible refine upd_set ?_ _ _) | (with_reducible refine upd_far ?_ ?_ _) | (with_reducible refine upd_alloc ?_ _) | (with_reducible refine upd_below ?_ (by assumption)) | (with_reducible refine upd_upd ?_ (by assumption)) | (show _ ≤ _; first | omega | (simp; done) | (simp; omega))))⟩
  · go_ret
    have h : b0 s ≤ 1 := by rw [hb0.out]; omega
    have h1 : decide (b0 s = 1) = bq := by rw [← hbq, hb0.out, Bool.eq_iff_iff]; simp; omega
    exact ⟨ret_bool (by simp [idfOk, h]), by rw [idfD, if_pos h]; exact hd.set (by rw [h1]; rfl), by (repeat' (first | (with_reducible exact upd_refl _ _) | (with_reducible assumption) | (with_reducible refine upd_drewN ?_ _) | (with_reducible refine upd_drew ?_) | (with_reducible refine upd_set ?_ _ _) | (with_reducible refine upd_far ?_ ?_ _) | (with_reducible refine upd_alloc ?_ _) | (with_reducible refine upd_below ?_ (by assumption)) | (with_reducible refine upd_upd ?_ (by assumption)) | (show _ ≤ _; first | omega | (simp; done) | (simp; omega))))⟩

set_option maxHeartbeats 1000000 in
set_option maxRecDepth 100000 in
theorem reset_any (b : Nat) (d : Dev) (s : ByteArray) (w : World) (hd : DevAt w b d) (hs : s.size = 1) :
    Calls Tryz.prog 201 #[.pointer (some ⟨b, 0, none⟩), .string s] w (SetPost (rstOk s) (rstD d s) b w) := by
  obtain ⟨c0, c1, c2, c3, c4, c5, c6, cf, l1, l2, l3, l4, l5⟩ := dev_facts hd
  have h0 : 0 < s.size := by omega
  have s0 : (0 : Int) < (s.size : Int) := by omega
  have hb0 := Lib.hid (b0_eq s h0)
  have HS := Lib.hid hs
  clear hs
  go_enter Tryz.func201, Tryz.ntmps201
  go_wp2
  · go_ret
    have h1 : (((s[0]'h0).toNat : Int) != 255) = true := by assumption
    have h : ¬ b0 s = 255 := by rw [hb0.out]; intro e; simp [e] at h1
    exact ⟨ret_bool (by simp [rstOk, h]), by simpa [rstD, h] using hd, by (repeat' (first | (with_reducible exact upd_refl _ _) | (with_reducible assumption) | (with_reducible refine upd_drewN ?_ _) | (with_reducible refine upd_drew ?_) | (with_reducible refine upd_set ?_ _ _) | (with_reducible refine upd_far ?_ ?_ _) | (with_reducible refine upd_alloc ?_ _) | (with_reducible refine upd_below ?_ (by assumption)) | (with_reducible refine upd_upd ?_ (by assumption)) | (show _ ≤ _; first | omega | (simp; done) | (simp; omega))))⟩
  · go_ret
    have h1 : (((s[0]'h0).toNat : Int) != 255) = false := by assumption
    have h : b0 s = 255 := by rw [hb0.out]; have := eq_of_bne h1; omega
    exact ⟨ret_bool (by simp [rstOk, h]), by rw [rstD, if_pos h]; exact (((hd.set (d' := { d with lb := ⟨#[]⟩ }) rfl).set (d' := { d with lb := ⟨#[]⟩, ad := 1 }) rfl).set (d' := { d with lb := ⟨#[]⟩, ad := 1, idf := false }) rfl).set rfl, by (repeat' (first | (with_reducible exact upd_refl _ _) | (with_reducible assumption) | (with_reducible refine upd_drewN ?_ _) | (with_reducible refine upd_drew ?_) | (with_reducible refine upd_set ?_ _ _) | (with_reducible refine upd_far ?_ ?_ _) | (with_reducible refine upd_alloc ?_ _) | (with_reducible refine upd_below ?_ (by assumption)) | (with_reducible refine upd_upd ?_ (by assumption)) | (show _ ≤ _; first | omega | (simp; done) | (simp; omega))))⟩

theorem num_or2 (a b : UInt8) (n : Nat) (hn : n = a.toNat * 256 + b.toNat) : bits BinOp.or .i64 (wrap64 (wrap64 (a.toNat : Int) * 256)) (wrap64 (b.toNat : Int)) = (n : Int) := by
  have ha := a.toNat_lt
  have hb := b.toNat_lt
  rw [IntWalk.wrap64_in (a.toNat : Int) (by omega), IntWalk.wrap64_in (b.toNat : Int) (by omega), IntWalk.wrap64_in _ (by omega),
    bits_join .i64 32 (by decide) (fun n h0 h1 => IntWalk.i64_in n (by omega)) 8 _ _ (by omega) (by omega) (by omega) (by omega) (by omega) (by omega)]
  omega

theorem numOf_two47 (s : ByteArray) (h0 : 0 < s.size) (h1 : 1 < s.size) (hs : s.size = 2) : numOf s.data.toList = (s[0]'h0).toNat * 256 + (s[1]'h1).toNat := by
  have e : s.data.toList = [s[0]'h0, s[1]'h1] := by
    apply List.ext_getElem
    · simpa using hs
    · intro i h2 h3
      match i, h3 with
      | 0, _ => rfl
      | 1, _ => rfl
  rw [e]
  simp [numOf]

set_option maxHeartbeats 1000000 in
set_option maxRecDepth 100000 in
theorem move_any (b : Nat) (d : Dev) (s : ByteArray) (w : World) (hd : DevAt w b d) (hf : Fine d) (hs : s.size = 2) :
    Calls Tryz.prog 196 #[.pointer (some ⟨b, 0, none⟩), .string s] w (SetPost (movOk d s) (movD d s) b w) := by
  obtain ⟨c0, c1, c2, c3, c4, c5, c6, cf, l1, l2, l3, l4, l5⟩ := dev_facts hd
  obtain ⟨f1, f2, f3, f4, f5, f6, f7, f8⟩ := hf
  have h0 : 0 < s.size := by omega
  have h1 : 1 < s.size := by omega
  have s0 : (0 : Int) < (s.size : Int) := by omega
  have s1 : (1 : Int) < (s.size : Int) := by omega
  have hn := Lib.hid (numOf_two47 s h0 h1 hs)
  have HS := Lib.hid hs
  clear hs
  obtain ⟨n, hnn⟩ : ∃ n, numOf s.data.toList = n := ⟨_, rfl⟩
  have hor := num_or2 (s[0]'h0) (s[1]'h1) n (by rw [← hnn, hn.out])
  have HN := Lib.hid hnn
  obtain ⟨q, hq⟩ : ∃ q, fitsB (n : Int) d.ft = q := ⟨_, rfl⟩
  have HQ := Lib.hid hq
  clear hn hnn
  go_enter Tryz.func196, Tryz.ntmps196
  go_wp2
  go_quiet (fail)
  go_wp2_with (go_at_call 113; refine (fits_any _ d.ft _ _ (by omega) (by omega) (by assumption)).mono ?_; rintro e w' ⟨rfl, rfl⟩)
  · have h : q = false := by simpa using ‹(!q) = true›
    go_ret
    exact ⟨ret_bool (by rw [movOk, HN.out, HQ.out, h]), by rw [movD, HN.out, if_neg (by rw [HQ.out, h]; decide)]; exact hd, by (repeat' (first | (with_reducible exact upd_refl _ _) | (with_reducible assumption) | (with_reducible refine upd_drewN ?_ _) | (with_reducible refine upd_drew ?_) | (with_reducible refine upd_set ?_ _ _) | (with_reducible refine upd_far ?_ ?_ _) | (with_reducible refine upd_alloc ?_ _) | (with_reducible refine upd_below ?_ (by assumption)) | (with_reducible refine upd_upd ?_ (by assumption)) | (show _ ≤ _; first | omega | (simp; done) | (simp; omega))))⟩
  · have h : q = true := by simpa using ‹(!q) = false›
    go_ret
    exact ⟨ret_bool (by rw [movOk, HN.out, HQ.out, h]), by rw [movD, HN.out, if_pos (by rw [HQ.out, h])]; exact DevAt.set (w := w.drewN _) hd rfl, by (repeat' (first | (with_reducible exact upd_refl _ _) | (with_reducible assumption) | (with_reducible refine upd_drewN ?_ _) | (with_reducible refine upd_drew ?_) | (with_reducible refine upd_set ?_ _ _) | (with_reducible refine upd_far ?_ ?_ _) | (with_reducible refine upd_alloc ?_ _) | (with_reducible refine upd_below ?_ (by assumption)) | (with_reducible refine upd_upd ?_ (by assumption)) | (show _ ≤ _; first | omega | (simp; done) | (simp; omega))))⟩

end Go.Proofs.YtpkhcehddfmhpaaGreat

namespace Go.Proofs.YtpkhcehddfmhpaaGreat
open Go.RowKit

/-- What a writing leaves. -/
def PutPost (r : Dev × Int) (b : Nat) (w : World) (e : Ending) (w' : World) : Prop := e = .returned (.int .i64 r.2) ∧ DevAt w' b r.1 ∧ Upd b w w'

theorem put_130 (d : Dev) (s : ByteArray) (h : s.size ≤ 32) : putD d 130 s = (renD d s, if renOk s then -1 else 3) := by
  grind [putD, renD, renOk]
theorem put_240 (d : Dev) (s : ByteArray) (h : s.size = 2) : putD d 240 s = (movD d s, if movOk d s then -1 else 3) := by
  grind [putD, movD, movOk]
theorem put_4096 (d : Dev) (s : ByteArray) (h : s.size = 1) : putD d 4096 s = (idfD d s, if idfOk s then -1 else 3) := by
  grind [putD, idfD, idfOk]
theorem put_4097 (d : Dev) (s : ByteArray) (h : s.size = 1) : putD d 4097 s = (rstD d s, if rstOk s then -1 else 3) := by
  grind [putD, rstD, rstOk]

set_option maxHeartbeats 1000000 in
set_option maxRecDepth 100000 in
theorem write_any (b : Nat) (d : Dev) (p : Int) (s : ByteArray) (w : World) (hd : DevAt w b d) (hfine : Fine d) :
    Calls Tryz.prog 161 #[.pointer (some ⟨b, 0, none⟩), .int .i64 p, .string s] w (PutPost (putD d p s) b w) := by
  obtain ⟨c0, c1, c2, c3, c4, c5, c6, cf, l1, l2, l3, l4, l5⟩ := dev_facts hd
  have q1 := some_set
  have q2 := none_set
  by_cases h1 : p = 80
  · subst h1
    have hft := findT_80
    go_enter Tryz.func161, Tryz.ntmps161
    go_wp2_with (go_at_call 179; refine (find_any _ _).mono ?_; rintro e w1 ⟨rfl, hb⟩; obtain ⟨hc, hf, hT1, hT2, hT3, hT4, hz⟩ := bfacts (n := w.heap.size) hb (by first | (simp; done) | (simp; omega) | omega))
    go_ret
    exact ⟨rfl, (hd.below hb l1).alloc _, by (repeat' (first | (with_reducible exact upd_refl _ _) | (with_reducible assumption) | (with_reducible refine upd_drewN ?_ _) | (with_reducible refine upd_drew ?_) | (with_reducible refine upd_set ?_ _ _) | (with_reducible refine upd_far ?_ ?_ _) | (with_reducible refine upd_alloc ?_ _) | (with_reducible refine upd_below ?_ (by assumption)) | (with_reducible refine upd_upd ?_ (by assumption)) | (show _ ≤ _; first | omega | (simp; done) | (simp; omega))))⟩
  by_cases h2 : p = 96
  · subst h2
    have hft := findT_96
    go_enter Tryz.func161, Tryz.ntmps161
    go_wp2_with (go_at_call 179; refine (find_any _ _).mono ?_; rintro e w1 ⟨rfl, hb⟩; obtain ⟨hc, hf, hT1, hT2, hT3, hT4, hz⟩ := bfacts (n := w.heap.size) hb (by first | (simp; done) | (simp; omega) | omega))
    go_ret
    exact ⟨rfl, (hd.below hb l1).alloc _, by (repeat' (first | (with_reducible exact upd_refl _ _) | (with_reducible assumption) | (with_reducible refine upd_drewN ?_ _) | (with_reducible refine upd_drew ?_) | (with_reducible refine upd_set ?_ _ _) | (with_reducible refine upd_far ?_ ?_ _) | (with_reducible refine upd_alloc ?_ _) | (with_reducible refine upd_below ?_ (by assumption)) | (with_reducible refine upd_upd ?_ (by assumption)) | (show _ ≤ _; first | omega | (simp; done) | (simp; omega))))⟩
  by_cases h3 : p = 1024
  · subst h3
    have hft := findT_1024
    go_enter Tryz.func161, Tryz.ntmps161
    go_wp2_with (go_at_call 179; refine (find_any _ _).mono ?_; rintro e w1 ⟨rfl, hb⟩; obtain ⟨hc, hf, hT1, hT2, hT3, hT4, hz⟩ := bfacts (n := w.heap.size) hb (by first | (simp; done) | (simp; omega) | omega))
    go_ret
    exact ⟨rfl, (hd.below hb l1).alloc _, by (repeat' (first | (with_reducible exact upd_refl _ _) | (with_reducible assumption) | (with_reducible refine upd_drewN ?_ _) | (with_reducible refine upd_drew ?_) | (with_reducible refine upd_set ?_ _ _) | (with_reducible refine upd_far ?_ ?_ _) | (with_reducible refine upd_alloc ?_ _) | (with_reducible refine upd_below ?_ (by assumption)) | (with_reducible refine upd_upd ?_ (by assumption)) | (show _ ≤ _; first | omega | (simp; done) | (simp; omega))))⟩
  by_cases h4 : p = 130
  · subst h4
    have hft := findT_130
    by_cases hs : s.size ≤ 32
    · have hr := put_130 d s hs
      have s1 : (s.size : Int) ≤ 32 := by omega
      obtain ⟨q, hq⟩ : ∃ q, renOk s = q := ⟨_, rfl⟩
      have HS := Lib.hid hs
      have HR := Lib.hid hr
      have HQ := Lib.hid hq
      clear hs hr hq
      go_enter Tryz.func161, Tryz.ntmps161
      go_wp2_with (first | (go_at_call 179; refine (find_any _ _).mono ?_; rintro e w1 ⟨rfl, hb⟩; obtain ⟨hc, hf, hT1, hT2, hT3, hT4, hz⟩ := bfacts (n := w.heap.size) hb (by first | (simp; done) | (simp; omega) | omega)) | (go_at_call 194; refine (rename_any _ d _ _ ((hd.below hb l1).alloc _)).mono ?_; rintro e w3 ⟨rfl, hd3, hu⟩; rw [HQ.out]))
      · have h : q = false := by simpa using ‹(!q) = true›
        go_ret
        exact ⟨by rw [HR.out, HQ.out, h]; rfl, by rw [HR.out]; exact hd3, by (repeat' (first | (with_reducible exact upd_refl _ _) | (with_reducible assumption) | (with_reducible refine upd_drewN ?_ _) | (with_reducible refine upd_drew ?_) | (with_reducible refine upd_set ?_ _ _) | (with_reducible refine upd_far ?_ ?_ _) | (with_reducible refine upd_alloc ?_ _) | (with_reducible refine upd_below ?_ (by assumption)) | (with_reducible refine upd_upd ?_ (by assumption)) | (show _ ≤ _; first | omega | (simp; done) | (simp; omega))))⟩
      · have h : q = true := by simpa using ‹(!q) = false›
        go_ret
        exact ⟨by rw [HR.out, HQ.out, h]; rfl, by rw [HR.out]; exact hd3, by (repeat' (first | (with_reducible exact upd_refl _ _) | (with_reducible assumption) | (with_reducible refine upd_drewN ?_ _) | (with_reducible refine upd_drew ?_) | (with_reducible refine upd_set ?_ _ _) | (with_reducible refine upd_far ?_ ?_ _) | (with_reducible refine upd_alloc ?_ _) | (with_reducible refine upd_below ?_ (by assumption)) | (with_reducible refine upd_upd ?_ (by assumption)) | (show _ ≤ _; first | omega | (simp; done) | (simp; omega))))⟩
    · have s1 : (32 : Int) < (s.size : Int) := by omega
      have hr : putD d 130 s = (d, 2) := by grind [putD]
      have HR := Lib.hid hr
      clear hs hr
      go_enter Tryz.func161, Tryz.ntmps161
      go_wp2_with (go_at_call 179; refine (find_any _ _).mono ?_; rintro e w1 ⟨rfl, hb⟩; obtain ⟨hc, hf, hT1, hT2, hT3, hT4, hz⟩ := bfacts (n := w.heap.size) hb (by first | (simp; done) | (simp; omega) | omega))
      go_ret
      exact ⟨by rw [HR.out]; rfl, by rw [HR.out]; exact (hd.below hb l1).alloc _, by (repeat' (first | (with_reducible exact upd_refl _ _) | (with_reducible assumption) | (with_reducible refine upd_drewN ?_ _) | (with_reducible refine upd_drew ?_) | (with_reducible refine upd_set ?_ _ _) | (with_reducible refine upd_far ?_ ?_ _) | (with_reducible refine upd_alloc ?_ _) | (with_reducible refine upd_below ?_ (by assumption)) | (with_reducible refine upd_upd ?_ (by assumption)) | (show _ ≤ _; first | omega | (simp; done) | (simp; omega))))⟩
  by_cases h5 : p = 240
  · subst h5
    have hft := findT_240
    by_cases hs : s.size = 2
    · have hr := put_240 d s hs
      have s1 : ((s.size : Int) != 2) = false := by simp; omega
      obtain ⟨q, hq⟩ : ∃ q, movOk d s = q := ⟨_, rfl⟩
      have HS := Lib.hid hs
      have HR := Lib.hid hr
      have HQ := Lib.hid hq
      clear hs hr hq
      go_enter Tryz.func161, Tryz.ntmps161
      go_wp2_with (first | (go_at_call 179; refine (find_any _ _).mono ?_; rintro e w1 ⟨rfl, hb⟩; obtain ⟨hc, hf, hT1, hT2, hT3, hT4, hz⟩ := bfacts (n := w.heap.size) hb (by first | (simp; done) | (simp; omega) | omega)) | (go_at_call 196; refine (move_any _ d _ _ ((hd.below hb l1).alloc _) hfine (HS.out)).mono ?_; rintro e w3 ⟨rfl, hd3, hu⟩; rw [HQ.out]))
      · have h : q = false := by simpa using ‹(!q) = true›
        go_ret
        exact ⟨by rw [HR.out, HQ.out, h]; rfl, by rw [HR.out]; exact hd3, by (repeat' (first | (with_reducible exact upd_refl _ _) | (with_reducible assumption) | (with_reducible refine upd_drewN ?_ _) | (with_reducible refine upd_drew ?_) | (with_reducible refine upd_set ?_ _ _) | (with_reducible refine upd_far ?_ ?_ _) | (with_reducible refine upd_alloc ?_ _) | (with_reducible refine upd_below ?_ (by assumption)) | (with_reducible refine upd_upd ?_ (by assumption)) | (show _ ≤ _; first | omega | (simp; done) | (simp; omega))))⟩
      · have h : q = true := by simpa using ‹(!q) = false›
        go_ret
        exact ⟨by rw [HR.out, HQ.out, h]; rfl, by rw [HR.out]; exact hd3, by (repeat' (first | (with_reducible exact upd_refl _ _) | (with_reducible assumption) | (with_reducible refine upd_drewN ?_ _) | (with_reducible refine upd_drew ?_) | (with_reducible refine upd_set ?_ _ _) | (with_reducible refine upd_far ?_ ?_ _) | (with_reducible refine upd_alloc ?_ _) | (with_reducible refine upd_below ?_ (by assumption)) | (with_reducible refine upd_upd ?_ (by assumption)) | (show _ ≤ _; first | omega | (simp; done) | (simp; omega))))⟩
    · have s1 : ((s.size : Int) != 2) = true := by simp; omega
      have hr : putD d 240 s = (d, 2) := by grind [putD]
      have HR := Lib.hid hr
      clear hs hr
      go_enter Tryz.func161, Tryz.ntmps161
      go_wp2_with (go_at_call 179; refine (find_any _ _).mono ?_; rintro e w1 ⟨rfl, hb⟩; obtain ⟨hc, hf, hT1, hT2, hT3, hT4, hz⟩ := bfacts (n := w.heap.size) hb (by first | (simp; done) | (simp; omega) | omega))
      go_ret
      exact ⟨by rw [HR.out]; rfl, by rw [HR.out]; exact (hd.below hb l1).alloc _, by (repeat' (first | (with_reducible exact upd_refl _ _) | (with_reducible assumption) | (with_reducible refine upd_drewN ?_ _) | (with_reducible refine upd_drew ?_) | (with_reducible refine upd_set ?_ _ _) | (with_reducible refine upd_far ?_ ?_ _) | (with_reducible refine upd_alloc ?_ _) | (with_reducible refine upd_below ?_ (by assumption)) | (with_reducible refine upd_upd ?_ (by assumption)) | (show _ ≤ _; first | omega | (simp; done) | (simp; omega))))⟩
  by_cases h6 : p = 4096
  · subst h6
    have hft := findT_4096
    by_cases hs : s.size = 1
    · have hr := put_4096 d s hs
      have s1 : ((s.size : Int) != 1) = false := by simp; omega
      obtain ⟨q, hq⟩ : ∃ q, idfOk s = q := ⟨_, rfl⟩
      have HS := Lib.hid hs
      have HR := Lib.hid hr
      have HQ := Lib.hid hq
      clear hs hr hq
      go_enter Tryz.func161, Tryz.ntmps161
      go_wp2_with (first | (go_at_call 179; refine (find_any _ _).mono ?_; rintro e w1 ⟨rfl, hb⟩; obtain ⟨hc, hf, hT1, hT2, hT3, hT4, hz⟩ := bfacts (n := w.heap.size) hb (by first | (simp; done) | (simp; omega) | omega)) | (go_at_call 200; refine (identify_any _ d _ _ ((hd.below hb l1).alloc _) (HS.out)).mono ?_; rintro e w3 ⟨rfl, hd3, hu⟩; rw [HQ.out]))
      · have h : q = false := by simpa using ‹(!q) = true›
        go_ret
        exact ⟨by rw [HR.out, HQ.out, h]; rfl, by rw [HR.out]; exact hd3, by (repeat' (first | (with_reducible exact upd_refl _ _) | (with_reducible assumption) | (with_reducible refine upd_drewN ?_ _) | (with_reducible refine upd_drew ?_) | (with_reducible refine upd_set ?_ _ _) | (with_reducible refine upd_far ?_ ?_ _) | (with_reducible refine upd_alloc ?_ _) | (with_reducible refine upd_below ?_ (by assumption)) | (with_reducible refine upd_upd ?_ (by assumption)) | (show _ ≤ _; first | omega | (simp; done) | (simp; omega))))⟩
      · have h : q = true := by simpa using ‹(!q) = false›
        go_ret
        exact ⟨by rw [HR.out, HQ.out, h]; rfl, by rw [HR.out]; exact hd3, by (repeat' (first | (with_reducible exact upd_refl _ _) | (with_reducible assumption) | (with_reducible refine upd_drewN ?_ _) | (with_reducible refine upd_drew ?_) | (with_reducible refine upd_set ?_ _ _) | (with_reducible refine upd_far ?_ ?_ _) | (with_reducible refine upd_alloc ?_ _) | (with_reducible refine upd_below ?_ (by assumption)) | (with_reducible refine upd_upd ?_ (by assumption)) | (show _ ≤ _; first | omega | (simp; done) | (simp; omega))))⟩
    · have s1 : ((s.size : Int) != 1) = true := by simp; omega
      have hr : putD d 4096 s = (d, 2) := by grind [putD]
      have HR := Lib.hid hr
      clear hs hr
      go_enter Tryz.func161, Tryz.ntmps161
      go_wp2_with (go_at_call 179; refine (find_any _ _).mono ?_; rintro e w1 ⟨rfl, hb⟩; obtain ⟨hc, hf, hT1, hT2, hT3, hT4, hz⟩ := bfacts (n := w.heap.size) hb (by first | (simp; done) | (simp; omega) | omega))
      go_ret
      exact ⟨by rw [HR.out]; rfl, by rw [HR.out]; exact (hd.below hb l1).alloc _, by (repeat' (first | (with_reducible exact upd_refl _ _) | (with_reducible assumption) | (with_reducible refine upd_drewN ?_ _) | (with_reducible refine upd_drew ?_) | (with_reducible refine upd_set ?_ _ _) | (with_reducible refine upd_far ?_ ?_ _) | (with_reducible refine upd_alloc ?_ _) | (with_reducible refine upd_below ?_ (by assumption)) | (with_reducible refine upd_upd ?_ (by assumption)) | (show _ ≤ _; first | omega | (simp; done) | (simp; omega))))⟩
  by_cases h7 : p = 4097
  · subst h7
    have hft := findT_4097
    by_cases hs : s.size = 1
    · have hr := put_4097 d s hs
      have s1 : ((s.size : Int) != 1) = false := by simp; omega
      obtain ⟨q, hq⟩ : ∃ q, rstOk s = q := ⟨_, rfl⟩
      have HS := Lib.hid hs
      have HR := Lib.hid hr
      have HQ := Lib.hid hq
      clear hs hr hq
      go_enter Tryz.func161, Tryz.ntmps161
      go_wp2_with (first | (go_at_call 179; refine (find_any _ _).mono ?_; rintro e w1 ⟨rfl, hb⟩; obtain ⟨hc, hf, hT1, hT2, hT3, hT4, hz⟩ := bfacts (n := w.heap.size) hb (by first | (simp; done) | (simp; omega) | omega)) | (go_at_call 201; refine (reset_any _ d _ _ ((hd.below hb l1).alloc _) (HS.out)).mono ?_; rintro e w3 ⟨rfl, hd3, hu⟩; rw [HQ.out]))
      · have h : q = false := by simpa using ‹(!q) = true›
        go_ret
        exact ⟨by rw [HR.out, HQ.out, h]; rfl, by rw [HR.out]; exact hd3, by (repeat' (first | (with_reducible exact upd_refl _ _) | (with_reducible assumption) | (with_reducible refine upd_drewN ?_ _) | (with_reducible refine upd_drew ?_) | (with_reducible refine upd_set ?_ _ _) | (with_reducible refine upd_far ?_ ?_ _) | (with_reducible refine upd_alloc ?_ _) | (with_reducible refine upd_below ?_ (by assumption)) | (with_reducible refine upd_upd ?_ (by assumption)) | (show _ ≤ _; first | omega | (simp; done) | (simp; omega))))⟩
      · have h : q = true := by simpa using ‹(!q) = false›
        go_ret
        exact ⟨by rw [HR.out, HQ.out, h]; rfl, by rw [HR.out]; exact hd3, by (repeat' (first | (with_reducible exact upd_refl _ _) | (with_reducible assumption) | (with_reducible refine upd_drewN ?_ _) | (with_reducible refine upd_drew ?_) | (with_reducible refine upd_set ?_ _ _) | (with_reducible refine upd_far ?_ ?_ _) | (with_reducible refine upd_alloc ?_ _) | (with_reducible refine upd_below ?_ (by assumption)) | (with_reducible refine upd_upd ?_ (by assumption)) | (show _ ≤ _; first | omega | (simp; done) | (simp; omega))))⟩
    · have s1 : ((s.size : Int) != 1) = true := by simp; omega
      have hr : putD d 4097 s = (d, 2) := by grind [putD]
      have HR := Lib.hid hr
      clear hs hr
      go_enter Tryz.func161, Tryz.ntmps161
      go_wp2_with (go_at_call 179; refine (find_any _ _).mono ?_; rintro e w1 ⟨rfl, hb⟩; obtain ⟨hc, hf, hT1, hT2, hT3, hT4, hz⟩ := bfacts (n := w.heap.size) hb (by first | (simp; done) | (simp; omega) | omega))
      go_ret
      exact ⟨by rw [HR.out]; rfl, by rw [HR.out]; exact (hd.below hb l1).alloc _, by (repeat' (first | (with_reducible exact upd_refl _ _) | (with_reducible assumption) | (with_reducible refine upd_drewN ?_ _) | (with_reducible refine upd_drew ?_) | (with_reducible refine upd_set ?_ _ _) | (with_reducible refine upd_far ?_ ?_ _) | (with_reducible refine upd_alloc ?_ _) | (with_reducible refine upd_below ?_ (by assumption)) | (with_reducible refine upd_upd ?_ (by assumption)) | (show _ ≤ _; first | omega | (simp; done) | (simp; omega))))⟩
  have hft := findT_other p h1 h2 h4 h5 h3 h6 h7
  have hr : putD d p s = (d, 0) := by
    unfold putD
    rw [if_neg h4, if_neg h5, if_neg h6, if_neg h7, if_neg (by rintro (h | h | h) <;> contradiction)]
  have HR := Lib.hid hr
  clear hr h1 h2 h3 h4 h5 h6 h7
  go_enter Tryz.func161, Tryz.ntmps161
  go_wp2_with (go_at_call 179; refine (find_any _ _).mono ?_; rintro e w1 ⟨rfl, hb⟩; obtain ⟨hc, hf, hT1, hT2, hT3, hT4, hz⟩ := bfacts (n := w.heap.size) hb (by first | (simp; done) | (simp; omega) | omega))
  go_ret
  exact ⟨by rw [HR.out]; rfl, by rw [HR.out]; exact (hd.below hb l1).alloc _, by (repeat' (first | (with_reducible exact upd_refl _ _) | (with_reducible assumption) | (with_reducible refine upd_drewN ?_ _) | (with_reducible refine upd_drew ?_) | (with_reducible refine upd_set ?_ _ _) | (with_reducible refine upd_far ?_ ?_ _) | (with_reducible refine upd_alloc ?_ _) | (with_reducible refine upd_below ?_ (by assumption)) | (with_reducible refine upd_upd ?_ (by assumption)) | (show _ ≤ _; first | omega | (simp; done) | (simp; omega))))⟩

end Go.Proofs.YtpkhcehddfmhpaaGreat
