/-
  The contracts of the reference's settings.
  The contracts of the reference's setting of settings.
-/
import Derived.Test.YtpkhcehddfmhpaaGreatRecv
namespace Go.Proofs.YtpkhcehddfmhpaaGreat
open Go.RowKit

/-- A device as a value. -/
@[go_sem] def devV (d : Dev) : Value := .agg #[.int .u64 d.id, .int .i64 d.ft, .int .i64 d.ad, .string d.lb, .int .i64 d.hr, .bool d.mu, .bool d.idf]

theorem fine_open {id ft ad hr : Int} {lb : ByteArray} {mu idf : Bool} (h : Fine ⟨id, ft, ad, lb, hr, mu, idf⟩) : 0 ≤ id ∧ id < 281474976710655 ∧ 1 ≤ ft ∧ ft ≤ 512 ∧ 1 ≤ ad ∧ ad ≤ 512 ∧ 0 ≤ hr ∧ hr ≤ 4294967295 := h

set_option maxHeartbeats 1000000 in
set_option maxRecDepth 100000 in
theorem shown_any (id ft ad hr p : Int) (lb : ByteArray) (mu idf : Bool) (w : World) (hf : Fine ⟨id, ft, ad, lb, hr, mu, idf⟩) :
    Calls Tryz.prog 165 #[.agg #[.int .u64 id, .int .i64 ft, .int .i64 ad, .string lb, .int .i64 hr, .bool mu, .bool idf], .int .i64 p] w fun e w' => ∃ s n, e = .returned (.tuple #[.string s, .int .i64 n]) ∧ Hid (shownD ⟨id, ft, ad, lb, hr, mu, idf⟩ p = (s, n)) ∧ Below w.heap.size w w' := by
  obtain ⟨f1, f2, f3, f4, f5, f6, f7, f8⟩ := fine_open hf
  clear hf
  by_cases h1 : p = 80
  · subst h1
    have z1 := bytesB_size 96 2
    have z2 := bytesB_size 130 2
    have z3 := bytesB_size 240 2
    have z4 := bytesB_size 1024 2
    have z5 := bytesB_size 4096 2
    have z6 := bytesB_size 4097 2
    have hl : Hid (listB = bytesB 96 2 ++ bytesB 130 2 ++ bytesB 240 2 ++ bytesB 1024 2 ++ bytesB 4096 2 ++ bytesB 4097 2) := by show _ = _; decide
    go_enter Tryz.func165, Tryz.ntmps165
    go_wp2_with (go_at_call 184; refine (sbytes_any _ _ _ (by omega) (by omega) (by omega) (by omega)).mono ?_; rintro e w1 ⟨rfl, hb⟩)
    go_ret2
    exact ⟨_, _, rfl, by show shownD _ 80 = _; rw [← hl.out]; rfl, by (repeat' (first | (with_reducible exact Below.refl _ _) | (with_reducible assumption) | (with_reducible refine below_run ?_ (by assumption)) | (with_reducible refine below_of_upd ?_ (by assumption) ?_) | (with_reducible refine below_drewN ?_ _) | (with_reducible refine Below.drew ?_) | (with_reducible refine Below.setCell ?_ ?_ _) | (with_reducible refine Below.alloc ?_ ?_ _) | (with_reducible refine below_after ?_ ?_ (by assumption)) | (show _ ≤ _; first | omega | (simp; done) | (simp; omega))))⟩
  by_cases h2 : p = 96
  · subst h2
    have z1 := bytesB_size ft 2
    have z2 := bytesB_size ad 2
    go_enter Tryz.func165, Tryz.ntmps165
    go_wp2
    go_region_held3 (fun w' => w'.cell? ⟨w.heap.size, 1, none⟩ = some (.int .i64 ft) ∧ w'.cell? ⟨w.heap.size, 2, none⟩ = some (.int .i64 ad)) (go_keep)
      (first | (go_at_call 184; refine (sbytes_any _ _ _ (by omega) (by omega) (by omega) (by omega)).mono ?_; rintro e w3 ⟨rfl, hb⟩; obtain ⟨hc, hf, hT1, hT2, hT3, hT4, hz⟩ := bfacts (n := w.heap.size + 1) hb (by first | (simp; done) | (simp; omega) | omega)))
    go_wp2
    go_ret2
    exact ⟨_, _, rfl, rfl, by (repeat' (first | (with_reducible exact Below.refl _ _) | (with_reducible assumption) | (with_reducible refine below_run ?_ (by assumption)) | (with_reducible refine below_of_upd ?_ (by assumption) ?_) | (with_reducible refine below_drewN ?_ _) | (with_reducible refine Below.drew ?_) | (with_reducible refine Below.setCell ?_ ?_ _) | (with_reducible refine Below.alloc ?_ ?_ _) | (with_reducible refine below_after ?_ ?_ (by assumption)) | (show _ ≤ _; first | omega | (simp; done) | (simp; omega))))⟩
  by_cases h3 : p = 130
  · subst h3
    go_enter Tryz.func165, Tryz.ntmps165
    go_wp2
    go_ret2
    exact ⟨_, _, rfl, rfl, by (repeat' (first | (with_reducible exact Below.refl _ _) | (with_reducible assumption) | (with_reducible refine below_run ?_ (by assumption)) | (with_reducible refine below_of_upd ?_ (by assumption) ?_) | (with_reducible refine below_drewN ?_ _) | (with_reducible refine Below.drew ?_) | (with_reducible refine Below.setCell ?_ ?_ _) | (with_reducible refine Below.alloc ?_ ?_ _) | (with_reducible refine below_after ?_ ?_ (by assumption)) | (show _ ≤ _; first | omega | (simp; done) | (simp; omega))))⟩
  by_cases h4 : p = 240
  · subst h4
    go_enter Tryz.func165, Tryz.ntmps165
    go_wp2_with (go_at_call 184; refine (sbytes_any _ _ _ (by omega) (by omega) (by omega) (by omega)).mono ?_; rintro e w1 ⟨rfl, hb⟩)
    go_ret2
    exact ⟨_, _, rfl, rfl, by (repeat' (first | (with_reducible exact Below.refl _ _) | (with_reducible assumption) | (with_reducible refine below_run ?_ (by assumption)) | (with_reducible refine below_of_upd ?_ (by assumption) ?_) | (with_reducible refine below_drewN ?_ _) | (with_reducible refine Below.drew ?_) | (with_reducible refine Below.setCell ?_ ?_ _) | (with_reducible refine Below.alloc ?_ ?_ _) | (with_reducible refine below_after ?_ ?_ (by assumption)) | (show _ ≤ _; first | omega | (simp; done) | (simp; omega))))⟩
  by_cases h5 : p = 1024
  · subst h5
    go_enter Tryz.func165, Tryz.ntmps165
    go_wp2_with (go_at_call 184; refine (sbytes_any _ _ _ (by omega) (by omega) (by omega) (by omega)).mono ?_; rintro e w1 ⟨rfl, hb⟩)
    go_ret2
    exact ⟨_, _, rfl, rfl, by (repeat' (first | (with_reducible exact Below.refl _ _) | (with_reducible assumption) | (with_reducible refine below_run ?_ (by assumption)) | (with_reducible refine below_of_upd ?_ (by assumption) ?_) | (with_reducible refine below_drewN ?_ _) | (with_reducible refine Below.drew ?_) | (with_reducible refine Below.setCell ?_ ?_ _) | (with_reducible refine Below.alloc ?_ ?_ _) | (with_reducible refine below_after ?_ ?_ (by assumption)) | (show _ ≤ _; first | omega | (simp; done) | (simp; omega))))⟩
  by_cases h6 : p = 4096
  · subst h6
    cases idf
    · go_enter Tryz.func165, Tryz.ntmps165
      go_wp2_with (go_at_call 184; refine (sbytes_any _ _ _ (by omega) (by omega) (by omega) (by omega)).mono ?_; rintro e w1 ⟨rfl, hb⟩)
      go_ret2
      exact ⟨_, _, rfl, rfl, by (repeat' (first | (with_reducible exact Below.refl _ _) | (with_reducible assumption) | (with_reducible refine below_run ?_ (by assumption)) | (with_reducible refine below_of_upd ?_ (by assumption) ?_) | (with_reducible refine below_drewN ?_ _) | (with_reducible refine Below.drew ?_) | (with_reducible refine Below.setCell ?_ ?_ _) | (with_reducible refine Below.alloc ?_ ?_ _) | (with_reducible refine below_after ?_ ?_ (by assumption)) | (show _ ≤ _; first | omega | (simp; done) | (simp; omega))))⟩
    · go_enter Tryz.func165, Tryz.ntmps165
      go_wp2_with (go_at_call 184; refine (sbytes_any _ _ _ (by omega) (by omega) (by omega) (by omega)).mono ?_; rintro e w1 ⟨rfl, hb⟩)
      go_ret2
      exact ⟨_, _, rfl, rfl, by (repeat' (first | (with_reducible exact Below.refl _ _) | (with_reducible assumption) | (with_reducible refine below_run ?_ (by assumption)) | (with_reducible refine below_of_upd ?_ (by assumption) ?_) | (with_reducible refine below_drewN ?_ _) | (with_reducible refine Below.drew ?_) | (with_reducible refine Below.setCell ?_ ?_ _) | (with_reducible refine Below.alloc ?_ ?_ _) | (with_reducible refine below_after ?_ ?_ (by assumption)) | (show _ ≤ _; first | omega | (simp; done) | (simp; omega))))⟩
  by_cases h7 : p = 4097
  · subst h7
    go_enter Tryz.func165, Tryz.ntmps165
    go_wp2
    go_ret2
    exact ⟨_, _, rfl, rfl, by (repeat' (first | (with_reducible exact Below.refl _ _) | (with_reducible assumption) | (with_reducible refine below_run ?_ (by assumption)) | (with_reducible refine below_of_upd ?_ (by assumption) ?_) | (with_reducible refine below_drewN ?_ _) | (with_reducible refine Below.drew ?_) | (with_reducible refine Below.setCell ?_ ?_ _) | (with_reducible refine Below.alloc ?_ ?_ _) | (with_reducible refine below_after ?_ ?_ (by assumption)) | (show _ ≤ _; first | omega | (simp; done) | (simp; omega))))⟩
  have hsh : Hid (shownD ⟨id, ft, ad, lb, hr, mu, idf⟩ p = (⟨#[]⟩, 0)) := by
    show shownD _ p = _
    unfold shownD
    rw [if_neg h1, if_neg h2, if_neg h3, if_neg h4, if_neg h5, if_neg h6, if_neg h7]
  have e1 : (p == 80) = false := by simpa using h1
  have e2 : (p == 96) = false := by simpa using h2
  have e3 : (p == 130) = false := by simpa using h3
  have e4 : (p == 240) = false := by simpa using h4
  have e5 : (p == 1024) = false := by simpa using h5
  have e6 : (p == 4096) = false := by simpa using h6
  have e7 : (p == 4097) = false := by simpa using h7
  clear h1 h2 h3 h4 h5 h6 h7
  go_enter Tryz.func165, Tryz.ntmps165
  go_wp2
  go_ret2
  exact ⟨_, _, rfl, hsh, by (repeat' (first | (with_reducible exact Below.refl _ _) | (with_reducible assumption) | (with_reducible refine below_run ?_ (by assumption)) | (with_reducible refine below_of_upd ?_ (by assumption) ?_) | (with_reducible refine below_drewN ?_ _) | (with_reducible refine Below.drew ?_) | (with_reducible refine Below.setCell ?_ ?_ _) | (with_reducible refine Below.alloc ?_ ?_ _) | (with_reducible refine below_after ?_ ?_ (by assumption)) | (show _ ≤ _; first | omega | (simp; done) | (simp; omega))))⟩

set_option maxHeartbeats 1000000 in
set_option maxRecDepth 100000 in
theorem reflabel_any (id ft ad hr : Int) (lb s : ByteArray) (mu idf : Bool) (w : World) (hs : s.size ≤ 9223372036854775807) :
    Calls Tryz.prog 185 #[.agg #[.int .u64 id, .int .i64 ft, .int .i64 ad, .string lb, .int .i64 hr, .bool mu, .bool idf], .string s] w fun e w' => ∃ d' n, e = .returned (.tuple #[devV d', .int .i64 n]) ∧ Hid (putD ⟨id, ft, ad, lb, hr, mu, idf⟩ 130 s = (d', n)) ∧ Below w.heap.size w w' := by
  go_enter Tryz.func185, Tryz.ntmps185
  go_wp2_with (go_at_call 181; refine (Label_any _ _ hs).mono ?_; rintro e w' ⟨rfl, rfl⟩)
  · have h : lblE s = 13 := eq_of_beq (by assumption)
    refine bodyPost_ret (v := .tuple #[devV ⟨id, ft, ad, lb, hr, mu, idf⟩, .int .i64 2]) ?_ rfl ⟨_, _, rfl, ?_, ?_⟩
    · simp [results, Tryz.results185, go_sem, *]
    · show putD _ 130 s = _; grind [putD, lblE]
    · (repeat' (first | (with_reducible exact Below.refl _ _) | (with_reducible assumption) | (with_reducible refine below_run ?_ (by assumption)) | (with_reducible refine below_of_upd ?_ (by assumption) ?_) | (with_reducible refine below_drewN ?_ _) | (with_reducible refine Below.drew ?_) | (with_reducible refine Below.setCell ?_ ?_ _) | (with_reducible refine Below.alloc ?_ ?_ _) | (with_reducible refine below_after ?_ ?_ (by assumption)) | (show _ ≤ _; first | omega | (simp; done) | (simp; omega))))
  · have h0 : lblE s ≠ 13 := ne_of_beq (by assumption)
    have h : lblE s ≠ 0 := ne_of_bne (by assumption)
    refine bodyPost_ret (v := .tuple #[devV ⟨id, ft, ad, lb, hr, mu, idf⟩, .int .i64 3]) ?_ rfl ⟨_, _, rfl, ?_, ?_⟩
    · simp [results, Tryz.results185, go_sem, *]
    · show putD _ 130 s = _; grind [putD, lblE]
    · (repeat' (first | (with_reducible exact Below.refl _ _) | (with_reducible assumption) | (with_reducible refine below_run ?_ (by assumption)) | (with_reducible refine below_of_upd ?_ (by assumption) ?_) | (with_reducible refine below_drewN ?_ _) | (with_reducible refine Below.drew ?_) | (with_reducible refine Below.setCell ?_ ?_ _) | (with_reducible refine Below.alloc ?_ ?_ _) | (with_reducible refine below_after ?_ ?_ (by assumption)) | (show _ ≤ _; first | omega | (simp; done) | (simp; omega))))
  · have h : lblE s = 0 := eq_of_bne (by assumption)
    refine bodyPost_ret (v := .tuple #[devV ⟨id, ft, ad, s, hr, mu, idf⟩, .int .i64 (-1)]) ?_ rfl ⟨_, _, rfl, ?_, ?_⟩
    · simp [results, Tryz.results185, go_sem, *]
    · show putD _ 130 s = _; grind [putD, lblE]
    · (repeat' (first | (with_reducible exact Below.refl _ _) | (with_reducible assumption) | (with_reducible refine below_run ?_ (by assumption)) | (with_reducible refine below_of_upd ?_ (by assumption) ?_) | (with_reducible refine below_drewN ?_ _) | (with_reducible refine Below.drew ?_) | (with_reducible refine Below.setCell ?_ ?_ _) | (with_reducible refine Below.alloc ?_ ?_ _) | (with_reducible refine below_after ?_ ?_ (by assumption)) | (show _ ≤ _; first | omega | (simp; done) | (simp; omega))))

end Go.Proofs.YtpkhcehddfmhpaaGreat

namespace Go.Proofs.YtpkhcehddfmhpaaGreat
open Go.RowKit

theorem num_two (a b : UInt8) (n : Nat) (hn : n = a.toNat * 256 + b.toNat) : wrap64 (wrap64 (256 * wrap64 (a.toNat : Int)) + wrap64 (b.toNat : Int)) = (n : Int) := by
  have ha := a.toNat_lt
  have hb := b.toNat_lt
  rw [IntWalk.wrap64_in (a.toNat : Int) (by omega), IntWalk.wrap64_in (b.toNat : Int) (by omega), IntWalk.wrap64_in (256 * _) (by omega), IntWalk.wrap64_in _ (by omega)]
  omega

set_option maxHeartbeats 1000000 in
set_option maxRecDepth 100000 in
theorem refaddress_any (id ft ad hr : Int) (lb s : ByteArray) (mu idf : Bool) (w : World) (hf : Fine ⟨id, ft, ad, lb, hr, mu, idf⟩) :
    Calls Tryz.prog 186 #[.agg #[.int .u64 id, .int .i64 ft, .int .i64 ad, .string lb, .int .i64 hr, .bool mu, .bool idf], .string s] w fun e w' => ∃ d' n, e = .returned (.tuple #[devV d', .int .i64 n]) ∧ Hid (putD ⟨id, ft, ad, lb, hr, mu, idf⟩ 240 s = (d', n)) ∧ Below w.heap.size w w' := by
  obtain ⟨f1, f2, f3, f4, f5, f6, f7, f8⟩ := fine_open hf
  clear hf
  by_cases hs : s.size = 2
  · have h0 : 0 < s.size := by omega
    have h1 : 1 < s.size := by omega
    have s0 : (0 : Int) < (s.size : Int) := by omega
    have s1 : (1 : Int) < (s.size : Int) := by omega
    have s2 : ((s.size : Int) != 2) = false := by simp; omega
    have hn := Lib.hid (numOf_two47 s h0 h1 hs)
    have HS := Lib.hid hs
    obtain ⟨n, hnn⟩ : ∃ n, numOf s.data.toList = n := ⟨_, rfl⟩
    have hor := num_two (s[0]'h0) (s[1]'h1) n (by rw [← hnn, hn.out])
    have HN := Lib.hid hnn
    obtain ⟨q, hq⟩ : ∃ q, fitsB (n : Int) ft = q := ⟨_, rfl⟩
    have HQ := Lib.hid hq
    clear hn hnn hs
    go_enter Tryz.func186, Tryz.ntmps186
    go_wp2
    go_quiet (fail)
    go_wp2_with (go_at_call 180; refine (Fits_any _ _ _ (by omega) (by omega)).mono ?_; rintro e w' ⟨rfl, rfl⟩)
    · have h : q = false := by simpa using ‹(!q) = true›
      refine bodyPost_ret (v := .tuple #[devV ⟨id, ft, ad, lb, hr, mu, idf⟩, .int .i64 3]) ?_ rfl ⟨_, _, rfl, ?_, ?_⟩
      · simp [results, Tryz.results186, go_sem, *]
      · show putD _ 240 s = _
        simp [putD, HS.out, HN.out, HQ.out, h]
      · (repeat' (first | (with_reducible exact Below.refl _ _) | (with_reducible assumption) | (with_reducible refine below_run ?_ (by assumption)) | (with_reducible refine below_of_upd ?_ (by assumption) ?_) | (with_reducible refine below_drewN ?_ _) | (with_reducible refine Below.drew ?_) | (with_reducible refine Below.setCell ?_ ?_ _) | (with_reducible refine Below.alloc ?_ ?_ _) | (with_reducible refine below_after ?_ ?_ (by assumption)) | (show _ ≤ _; first | omega | (simp; done) | (simp; omega))))
    · have h : q = true := by simpa using ‹(!q) = false›
      refine bodyPost_ret (v := .tuple #[devV ⟨id, ft, n, lb, hr, mu, idf⟩, .int .i64 (-1)]) ?_ rfl ⟨_, _, rfl, ?_, ?_⟩
      · simp [results, Tryz.results186, go_sem, *]
      · show putD _ 240 s = _
        simp [putD, HS.out, HN.out, HQ.out, h]
      · (repeat' (first | (with_reducible exact Below.refl _ _) | (with_reducible assumption) | (with_reducible refine below_run ?_ (by assumption)) | (with_reducible refine below_of_upd ?_ (by assumption) ?_) | (with_reducible refine below_drewN ?_ _) | (with_reducible refine Below.drew ?_) | (with_reducible refine Below.setCell ?_ ?_ _) | (with_reducible refine Below.alloc ?_ ?_ _) | (with_reducible refine below_after ?_ ?_ (by assumption)) | (show _ ≤ _; first | omega | (simp; done) | (simp; omega))))
  · have s2 : ((s.size : Int) != 2) = true := by simp; omega
    have HS := Lib.hid hs
    clear hs
    go_enter Tryz.func186, Tryz.ntmps186
    go_wp2
    refine bodyPost_ret (v := .tuple #[devV ⟨id, ft, ad, lb, hr, mu, idf⟩, .int .i64 2]) ?_ rfl ⟨_, _, rfl, ?_, ?_⟩
    · simp [results, Tryz.results186, go_sem, *]
    · show putD _ 240 s = _
      simp [putD, HS.out]
    · (repeat' (first | (with_reducible exact Below.refl _ _) | (with_reducible assumption) | (with_reducible refine below_run ?_ (by assumption)) | (with_reducible refine below_of_upd ?_ (by assumption) ?_) | (with_reducible refine below_drewN ?_ _) | (with_reducible refine Below.drew ?_) | (with_reducible refine Below.setCell ?_ ?_ _) | (with_reducible refine Below.alloc ?_ ?_ _) | (with_reducible refine below_after ?_ ?_ (by assumption)) | (show _ ≤ _; first | omega | (simp; done) | (simp; omega))))

set_option maxHeartbeats 1000000 in
set_option maxRecDepth 100000 in
theorem put_any (id ft ad hr p : Int) (lb s : ByteArray) (mu idf : Bool) (w : World) (hf : Fine ⟨id, ft, ad, lb, hr, mu, idf⟩) (hsz : s.size ≤ 9223372036854775807) :
    Calls Tryz.prog 166 #[.agg #[.int .u64 id, .int .i64 ft, .int .i64 ad, .string lb, .int .i64 hr, .bool mu, .bool idf], .int .i64 p, .string s] w fun e w' => ∃ d' n, e = .returned (.tuple #[devV d', .int .i64 n]) ∧ Hid (putD ⟨id, ft, ad, lb, hr, mu, idf⟩ p s = (d', n)) ∧ Below w.heap.size w w' := by
  by_cases h1 : p = 130
  · subst h1
    go_enter Tryz.func166, Tryz.ntmps166
    go_wp2_with (go_at_call 185; refine (reflabel_any _ _ _ _ _ _ _ _ _ hsz).mono ?_; rintro e w1 ⟨d', n, rfl, hd, hb⟩; obtain ⟨hc, hf, hT1, hT2, hT3, hT4, hz⟩ := bfacts (n := w.heap.size + 2) hb (by first | (simp; done) | (simp; omega) | omega))
    refine bodyPost_ret (v := .tuple #[devV d', .int .i64 n]) ?_ rfl ⟨_, _, rfl, hd, ?_⟩
    · simp [results, Tryz.results166, go_sem, *]
    · (repeat' (first | (with_reducible exact Below.refl _ _) | (with_reducible assumption) | (with_reducible refine below_run ?_ (by assumption)) | (with_reducible refine below_of_upd ?_ (by assumption) ?_) | (with_reducible refine below_drewN ?_ _) | (with_reducible refine Below.drew ?_) | (with_reducible refine Below.setCell ?_ ?_ _) | (with_reducible refine Below.alloc ?_ ?_ _) | (with_reducible refine below_after ?_ ?_ (by assumption)) | (show _ ≤ _; first | omega | (simp; done) | (simp; omega))))
  by_cases h2 : p = 240
  · subst h2
    go_enter Tryz.func166, Tryz.ntmps166
    go_wp2_with (go_at_call 186; refine (refaddress_any _ _ _ _ _ _ _ _ _ hf).mono ?_; rintro e w1 ⟨d', n, rfl, hd, hb⟩; obtain ⟨hc, hf, hT1, hT2, hT3, hT4, hz⟩ := bfacts (n := w.heap.size + 2) hb (by first | (simp; done) | (simp; omega) | omega))
    refine bodyPost_ret (v := .tuple #[devV d', .int .i64 n]) ?_ rfl ⟨_, _, rfl, hd, ?_⟩
    · simp [results, Tryz.results166, go_sem, *]
    · (repeat' (first | (with_reducible exact Below.refl _ _) | (with_reducible assumption) | (with_reducible refine below_run ?_ (by assumption)) | (with_reducible refine below_of_upd ?_ (by assumption) ?_) | (with_reducible refine below_drewN ?_ _) | (with_reducible refine Below.drew ?_) | (with_reducible refine Below.setCell ?_ ?_ _) | (with_reducible refine Below.alloc ?_ ?_ _) | (with_reducible refine below_after ?_ ?_ (by assumption)) | (show _ ≤ _; first | omega | (simp; done) | (simp; omega))))
  clear hf
  by_cases h3 : p = 4096
  · subst h3
    by_cases hs : s.size = 1
    · have h0 : 0 < s.size := by omega
      have s0 : (0 : Int) < (s.size : Int) := by omega
      have s2 : ((s.size : Int) != 1) = false := by simp; omega
      have hb0 := Lib.hid (b0_eq s h0)
      have HS := Lib.hid hs
      clear hs
      obtain ⟨bq, hbq⟩ : ∃ q, (((s[0]'h0).toNat : Int) == 1) = q := ⟨_, rfl⟩
      go_enter Tryz.func166, Tryz.ntmps166
      go_wp2
      · have h : 1 < b0 s := by rw [hb0.out]; omega
        refine bodyPost_ret (v := .tuple #[devV ⟨id, ft, ad, lb, hr, mu, idf⟩, .int .i64 3]) ?_ rfl ⟨_, _, rfl, ?_, ?_⟩
        · simp [results, Tryz.results166, go_sem, *]
        · show putD _ 4096 s = _
          simp [putD, HS.out, h]
        · (repeat' (first | (with_reducible exact Below.refl _ _) | (with_reducible assumption) | (with_reducible refine below_run ?_ (by assumption)) | (with_reducible refine below_of_upd ?_ (by assumption) ?_) | (with_reducible refine below_drewN ?_ _) | (with_reducible refine Below.drew ?_) | (with_reducible refine Below.setCell ?_ ?_ _) | (with_reducible refine Below.alloc ?_ ?_ _) | (with_reducible refine below_after ?_ ?_ (by assumption)) | (show _ ≤ _; first | omega | (simp; done) | (simp; omega))))
      · have h : ¬ 1 < b0 s := by rw [hb0.out]; omega
        have h1 : decide (b0 s = 1) = bq := by rw [← hbq, hb0.out, Bool.eq_iff_iff]; simp; omega
        refine bodyPost_ret (v := .tuple #[devV ⟨id, ft, ad, lb, hr, mu, bq⟩, .int .i64 (-1)]) ?_ rfl ⟨_, _, rfl, ?_, ?_⟩
        · simp [results, Tryz.results166, go_sem, *]
        · show putD _ 4096 s = _
          rw [← h1]
          simp [putD, HS.out, h]
        · (repeat' (first | (with_reducible exact Below.refl _ _) | (with_reducible assumption) | (with_reducible refine below_run ?_ (by assumption)) | (with_reducible refine below_of_upd ?_ (by assumption) ?_) | (with_reducible refine below_drewN ?_ _) | (with_reducible refine Below.drew ?_) | (with_reducible refine Below.setCell ?_ ?_ _) | (with_reducible refine Below.alloc ?_ ?_ _) | (with_reducible refine below_after ?_ ?_ (by assumption)) | (show _ ≤ _; first | omega | (simp; done) | (simp; omega))))
    · have s2 : ((s.size : Int) != 1) = true := by simp; omega
      have HS := Lib.hid hs
      clear hs
      go_enter Tryz.func166, Tryz.ntmps166
      go_wp2
      refine bodyPost_ret (v := .tuple #[devV ⟨id, ft, ad, lb, hr, mu, idf⟩, .int .i64 2]) ?_ rfl ⟨_, _, rfl, ?_, ?_⟩
      · simp [results, Tryz.results166, go_sem, *]
      · show putD _ 4096 s = _
        simp [putD, HS.out]
      · (repeat' (first | (with_reducible exact Below.refl _ _) | (with_reducible assumption) | (with_reducible refine below_run ?_ (by assumption)) | (with_reducible refine below_of_upd ?_ (by assumption) ?_) | (with_reducible refine below_drewN ?_ _) | (with_reducible refine Below.drew ?_) | (with_reducible refine Below.setCell ?_ ?_ _) | (with_reducible refine Below.alloc ?_ ?_ _) | (with_reducible refine below_after ?_ ?_ (by assumption)) | (show _ ≤ _; first | omega | (simp; done) | (simp; omega))))
  by_cases h4 : p = 4097
  · subst h4
    by_cases hs : s.size = 1
    · have h0 : 0 < s.size := by omega
      have s0 : (0 : Int) < (s.size : Int) := by omega
      have s2 : ((s.size : Int) != 1) = false := by simp; omega
      have hb0 := Lib.hid (b0_eq s h0)
      have HS := Lib.hid hs
      clear hs
      go_enter Tryz.func166, Tryz.ntmps166
      go_wp2
      · have h : b0 s ≠ 255 := by have := ne_of_bne (a := ((s[0]'h0).toNat : Int)) (by assumption); rw [hb0.out]; omega
        refine bodyPost_ret (v := .tuple #[devV ⟨id, ft, ad, lb, hr, mu, idf⟩, .int .i64 3]) ?_ rfl ⟨_, _, rfl, ?_, ?_⟩
        · simp [results, Tryz.results166, go_sem, *]
        · show putD _ 4097 s = _
          simp [putD, HS.out, h]
        · (repeat' (first | (with_reducible exact Below.refl _ _) | (with_reducible assumption) | (with_reducible refine below_run ?_ (by assumption)) | (with_reducible refine below_of_upd ?_ (by assumption) ?_) | (with_reducible refine below_drewN ?_ _) | (with_reducible refine Below.drew ?_) | (with_reducible refine Below.setCell ?_ ?_ _) | (with_reducible refine Below.alloc ?_ ?_ _) | (with_reducible refine below_after ?_ ?_ (by assumption)) | (show _ ≤ _; first | omega | (simp; done) | (simp; omega))))
      · have h : b0 s = 255 := by have := eq_of_bne (a := ((s[0]'h0).toNat : Int)) (by assumption); rw [hb0.out]; omega
        refine bodyPost_ret (v := .tuple #[devV ⟨id, ft, 1, ⟨#[]⟩, hr, false, false⟩, .int .i64 (-1)]) ?_ rfl ⟨_, _, rfl, ?_, ?_⟩
        · simp [results, Tryz.results166, go_sem, *]
        · show putD _ 4097 s = _
          simp [putD, HS.out, h]
        · (repeat' (first | (with_reducible exact Below.refl _ _) | (with_reducible assumption) | (with_reducible refine below_run ?_ (by assumption)) | (with_reducible refine below_of_upd ?_ (by assumption) ?_) | (with_reducible refine below_drewN ?_ _) | (with_reducible refine Below.drew ?_) | (with_reducible refine Below.setCell ?_ ?_ _) | (with_reducible refine Below.alloc ?_ ?_ _) | (with_reducible refine below_after ?_ ?_ (by assumption)) | (show _ ≤ _; first | omega | (simp; done) | (simp; omega))))
    · have s2 : ((s.size : Int) != 1) = true := by simp; omega
      have HS := Lib.hid hs
      clear hs
      go_enter Tryz.func166, Tryz.ntmps166
      go_wp2
      refine bodyPost_ret (v := .tuple #[devV ⟨id, ft, ad, lb, hr, mu, idf⟩, .int .i64 2]) ?_ rfl ⟨_, _, rfl, ?_, ?_⟩
      · simp [results, Tryz.results166, go_sem, *]
      · show putD _ 4097 s = _
        simp [putD, HS.out]
      · (repeat' (first | (with_reducible exact Below.refl _ _) | (with_reducible assumption) | (with_reducible refine below_run ?_ (by assumption)) | (with_reducible refine below_of_upd ?_ (by assumption) ?_) | (with_reducible refine below_drewN ?_ _) | (with_reducible refine Below.drew ?_) | (with_reducible refine Below.setCell ?_ ?_ _) | (with_reducible refine Below.alloc ?_ ?_ _) | (with_reducible refine below_after ?_ ?_ (by assumption)) | (show _ ≤ _; first | omega | (simp; done) | (simp; omega))))
  by_cases h5 : p = 80 ∨ p = 96 ∨ p = 1024
  · have hp : Hid (putD ⟨id, ft, ad, lb, hr, mu, idf⟩ p s = (⟨id, ft, ad, lb, hr, mu, idf⟩, 1)) := by show putD _ p s = _; unfold putD; rw [if_neg h1, if_neg h2, if_neg h3, if_neg h4, if_pos h5]
    rcases h5 with rfl | rfl | rfl
    all_goals
      go_enter Tryz.func166, Tryz.ntmps166
      go_wp2
      refine bodyPost_ret (v := .tuple #[devV ⟨id, ft, ad, lb, hr, mu, idf⟩, .int .i64 1]) ?_ rfl ⟨_, _, rfl, hp, ?_⟩
      · simp [results, Tryz.results166, go_sem, *]
      · (repeat' (first | (with_reducible exact Below.refl _ _) | (with_reducible assumption) | (with_reducible refine below_run ?_ (by assumption)) | (with_reducible refine below_of_upd ?_ (by assumption) ?_) | (with_reducible refine below_drewN ?_ _) | (with_reducible refine Below.drew ?_) | (with_reducible refine Below.setCell ?_ ?_ _) | (with_reducible refine Below.alloc ?_ ?_ _) | (with_reducible refine below_after ?_ ?_ (by assumption)) | (show _ ≤ _; first | omega | (simp; done) | (simp; omega))))
  · have hp : Hid (putD ⟨id, ft, ad, lb, hr, mu, idf⟩ p s = (⟨id, ft, ad, lb, hr, mu, idf⟩, 0)) := by show putD _ p s = _; unfold putD; rw [if_neg h1, if_neg h2, if_neg h3, if_neg h4, if_neg h5]
    have e1 : (p == 130) = false := by simpa using h1
    have e2 : (p == 240) = false := by simpa using h2
    have e3 : (p == 4096) = false := by simpa using h3
    have e4 : (p == 4097) = false := by simpa using h4
    have e5 : (p == 80) = false := by simp; omega
    have e6 : (p == 96) = false := by simp; omega
    have e7 : (p == 1024) = false := by simp; omega
    clear h1 h2 h3 h4 h5
    go_enter Tryz.func166, Tryz.ntmps166
    go_wp2
    refine bodyPost_ret (v := .tuple #[devV ⟨id, ft, ad, lb, hr, mu, idf⟩, .int .i64 0]) ?_ rfl ⟨_, _, rfl, hp, ?_⟩
    · simp [results, Tryz.results166, go_sem, *]
    · (repeat' (first | (with_reducible exact Below.refl _ _) | (with_reducible assumption) | (with_reducible refine below_run ?_ (by assumption)) | (with_reducible refine below_of_upd ?_ (by assumption) ?_) | (with_reducible refine below_drewN ?_ _) | (with_reducible refine Below.drew ?_) | (with_reducible refine Below.setCell ?_ ?_ _) | (with_reducible refine Below.alloc ?_ ?_ _) | (with_reducible refine below_after ?_ ?_ (by assumption)) | (show _ ≤ _; first | omega | (simp; done) | (simp; omega))))

end Go.Proofs.YtpkhcehddfmhpaaGreat
