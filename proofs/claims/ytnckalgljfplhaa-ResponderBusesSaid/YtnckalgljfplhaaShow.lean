/-
  The contracts of the reference's settings.
-/
import Derived.Test.YtnckalgljfplhaaRecv
namespace Go.Proofs.Ytnckalgljfplhaa
open Go.RowKit

/-- A device as a value. -/
@[go_sem] def devV (d : Dev) : Value := .agg #[.int .u64 d.id, .int .i64 d.ft, .int .i64 d.ad, .string d.lb, .int .i64 d.hr, .bool d.mu, .bool d.idf]

theorem fine_open {id ft ad hr : Int} {lb : ByteArray} {mu idf : Bool} (h : Fine ⟨id, ft, ad, lb, hr, mu, idf⟩) : 0 ≤ id ∧ id < 281474976710655 ∧ 1 ≤ ft ∧ ft ≤ 512 ∧ 1 ≤ ad ∧ ad ≤ 512 ∧ 0 ≤ hr ∧ hr ≤ 4294967295 := h

set_option maxHeartbeats 1000000 in
set_option maxRecDepth 100000 in
theorem shown_any (id ft ad hr p : Int) (lb : ByteArray) (mu idf : Bool) (w : World) (hf : Fine ⟨id, ft, ad, lb, hr, mu, idf⟩) :
    Calls Try.prog 48 #[.agg #[.int .u64 id, .int .i64 ft, .int .i64 ad, .string lb, .int .i64 hr, .bool mu, .bool idf], .int .i64 p] w fun e w' => ∃ s n, e = .returned (.tuple #[.string s, .int .i64 n]) ∧ Hid (shownD ⟨id, ft, ad, lb, hr, mu, idf⟩ p = (s, n)) ∧ Below w.heap.size w w' := by
  obtain ⟨f1, f2, f3, f4, f5, f6, f7, f8⟩ := fine_open hf
  clear hf
  by_cases h1 : p = 80
  · subst h1
    have z1 := bytesB_size 96 2
    have z2 := bytesB_size 130 2
    have z3 := bytesB_size 240 2
    have z4 := bytesB_size 1024 2
    have z5 := bytesB_size 4096 2
    have z6 := bytesB_size 4097 2
    have hl : Hid (listB = bytesB 96 2 ++ bytesB 130 2 ++ bytesB 240 2 ++ bytesB 1024 2 ++ bytesB 4096 2 ++ bytesB 4097 2) := by show _ = _; decide
    go_enter Try.func48, Try.ntmps48
    go_wp2_with (go_at_call 68; refine (sbytes_any _ _ _ (by omega) (by omega) (by omega) (by omega)).mono ?_; rintro e w1 ⟨rfl, hb⟩)
    go_ret2
    exact ⟨_, _, rfl, by show shownD _ 80 = _; rw [← hl.out]; rfl, by (repeat' (first | (with_reducible exact Below.refl _ _) | (with_reducible assumption) | (with_reducible refine below_run ?_ (by assumption)) | (with_reducible refine below_drewN ?_ _) | (with_reducible refine Below.drew ?_) | (with_reducible refine Below.setCell ?_ ?_ _) | (with_reducible refine Below.alloc ?_ ?_ _) | (with_reducible refine below_after ?_ ?_ (by assumption)) | (show _ ≤ _; first | omega | (simp; done) | (simp; omega))))⟩
  by_cases h2 : p = 96
  · subst h2
    have z1 := bytesB_size ft 2
    have z2 := bytesB_size ad 2
    go_enter Try.func48, Try.ntmps48
    go_wp2
    go_region_held3 (fun w' => w'.cell? ⟨w.heap.size, 1, none⟩ = some (.int .i64 ft) ∧ w'.cell? ⟨w.heap.size, 2, none⟩ = some (.int .i64 ad)) (go_keep)
      (first | (go_at_call 68; refine (sbytes_any _ _ _ (by omega) (by omega) (by omega) (by omega)).mono ?_; rintro e w3 ⟨rfl, hb⟩; obtain ⟨hc, hf, hT1, hT2, hT3, hT4, hz⟩ := bfacts (n := w.heap.size + 1) hb (by first | (simp; done) | (simp; omega) | omega)))
    go_wp2
    go_ret2
    exact ⟨_, _, rfl, rfl, by (repeat' (first | (with_reducible exact Below.refl _ _) | (with_reducible assumption) | (with_reducible refine below_run ?_ (by assumption)) | (with_reducible refine below_drewN ?_ _) | (with_reducible refine Below.drew ?_) | (with_reducible refine Below.setCell ?_ ?_ _) | (with_reducible refine Below.alloc ?_ ?_ _) | (with_reducible refine below_after ?_ ?_ (by assumption)) | (show _ ≤ _; first | omega | (simp; done) | (simp; omega))))⟩
  by_cases h3 : p = 130
  · subst h3
    go_enter Try.func48, Try.ntmps48
    go_wp2
    go_ret2
    exact ⟨_, _, rfl, rfl, by (repeat' (first | (with_reducible exact Below.refl _ _) | (with_reducible assumption) | (with_reducible refine below_run ?_ (by assumption)) | (with_reducible refine below_drewN ?_ _) | (with_reducible refine Below.drew ?_) | (with_reducible refine Below.setCell ?_ ?_ _) | (with_reducible refine Below.alloc ?_ ?_ _) | (with_reducible refine below_after ?_ ?_ (by assumption)) | (show _ ≤ _; first | omega | (simp; done) | (simp; omega))))⟩
  by_cases h4 : p = 240
  · subst h4
    go_enter Try.func48, Try.ntmps48
    go_wp2_with (go_at_call 68; refine (sbytes_any _ _ _ (by omega) (by omega) (by omega) (by omega)).mono ?_; rintro e w1 ⟨rfl, hb⟩)
    go_ret2
    exact ⟨_, _, rfl, rfl, by (repeat' (first | (with_reducible exact Below.refl _ _) | (with_reducible assumption) | (with_reducible refine below_run ?_ (by assumption)) | (with_reducible refine below_drewN ?_ _) | (with_reducible refine Below.drew ?_) | (with_reducible refine Below.setCell ?_ ?_ _) | (with_reducible refine Below.alloc ?_ ?_ _) | (with_reducible refine below_after ?_ ?_ (by assumption)) | (show _ ≤ _; first | omega | (simp; done) | (simp; omega))))⟩
  by_cases h5 : p = 1024
  · subst h5
    go_enter Try.func48, Try.ntmps48
    go_wp2_with (go_at_call 68; refine (sbytes_any _ _ _ (by omega) (by omega) (by omega) (by omega)).mono ?_; rintro e w1 ⟨rfl, hb⟩)
    go_ret2
    exact ⟨_, _, rfl, rfl, by (repeat' (first | (with_reducible exact Below.refl _ _) | (with_reducible assumption) | (with_reducible refine below_run ?_ (by assumption)) | (with_reducible refine below_drewN ?_ _) | (with_reducible refine Below.drew ?_) | (with_reducible refine Below.setCell ?_ ?_ _) | (with_reducible refine Below.alloc ?_ ?_ _) | (with_reducible refine below_after ?_ ?_ (by assumption)) | (show _ ≤ _; first | omega | (simp; done) | (simp; omega))))⟩
  by_cases h6 : p = 4096
  · subst h6
    cases idf
    · go_enter Try.func48, Try.ntmps48
      go_wp2_with (go_at_call 68; refine (sbytes_any _ _ _ (by omega) (by omega) (by omega) (by omega)).mono ?_; rintro e w1 ⟨rfl, hb⟩)
      go_ret2
      exact ⟨_, _, rfl, rfl, by (repeat' (first | (with_reducible exact Below.refl _ _) | (with_reducible assumption) | (with_reducible refine below_run ?_ (by assumption)) | (with_reducible refine below_drewN ?_ _) | (with_reducible refine Below.drew ?_) | (with_reducible refine Below.setCell ?_ ?_ _) | (with_reducible refine Below.alloc ?_ ?_ _) | (with_reducible refine below_after ?_ ?_ (by assumption)) | (show _ ≤ _; first | omega | (simp; done) | (simp; omega))))⟩
    · go_enter Try.func48, Try.ntmps48
      go_wp2_with (go_at_call 68; refine (sbytes_any _ _ _ (by omega) (by omega) (by omega) (by omega)).mono ?_; rintro e w1 ⟨rfl, hb⟩)
      go_ret2
      exact ⟨_, _, rfl, rfl, by (repeat' (first | (with_reducible exact Below.refl _ _) | (with_reducible assumption) | (with_reducible refine below_run ?_ (by assumption)) | (with_reducible refine below_drewN ?_ _) | (with_reducible refine Below.drew ?_) | (with_reducible refine Below.setCell ?_ ?_ _) | (with_reducible refine Below.alloc ?_ ?_ _) | (with_reducible refine below_after ?_ ?_ (by assumption)) | (show _ ≤ _; first | omega | (simp; done) | (simp; omega))))⟩
  by_cases h7 : p = 4097
  · subst h7
    go_enter Try.func48, Try.ntmps48
    go_wp2
    go_ret2
    exact ⟨_, _, rfl, rfl, by (repeat' (first | (with_reducible exact Below.refl _ _) | (with_reducible assumption) | (with_reducible refine below_run ?_ (by assumption)) | (with_reducible refine below_drewN ?_ _) | (with_reducible refine Below.drew ?_) | (with_reducible refine Below.setCell ?_ ?_ _) | (with_reducible refine Below.alloc ?_ ?_ _) | (with_reducible refine below_after ?_ ?_ (by assumption)) | (show _ ≤ _; first | omega | (simp; done) | (simp; omega))))⟩
  have hsh : Hid (shownD ⟨id, ft, ad, lb, hr, mu, idf⟩ p = (⟨#[]⟩, 0)) := by
    show shownD _ p = _
    unfold shownD
    rw [if_neg h1, if_neg h2, if_neg h3, if_neg h4, if_neg h5, if_neg h6, if_neg h7]
  have e1 : (p == 80) = false := by simpa using h1
  have e2 : (p == 96) = false := by simpa using h2
  have e3 : (p == 130) = false := by simpa using h3
  have e4 : (p == 240) = false := by simpa using h4
  have e5 : (p == 1024) = false := by simpa using h5
  have e6 : (p == 4096) = false := by simpa using h6
  have e7 : (p == 4097) = false := by simpa using h7
  clear h1 h2 h3 h4 h5 h6 h7
  go_enter Try.func48, Try.ntmps48
  go_wp2
  go_ret2
  exact ⟨_, _, rfl, hsh, by (repeat' (first | (with_reducible exact Below.refl _ _) | (with_reducible assumption) | (with_reducible refine below_run ?_ (by assumption)) | (with_reducible refine below_drewN ?_ _) | (with_reducible refine Below.drew ?_) | (with_reducible refine Below.setCell ?_ ?_ _) | (with_reducible refine Below.alloc ?_ ?_ _) | (with_reducible refine below_after ?_ ?_ (by assumption)) | (show _ ≤ _; first | omega | (simp; done) | (simp; omega))))⟩

set_option maxHeartbeats 1000000 in
set_option maxRecDepth 100000 in
theorem reflabel_any (id ft ad hr : Int) (lb s : ByteArray) (mu idf : Bool) (w : World) (hs : s.size ≤ 9223372036854775807) :
    Calls Try.prog 69 #[.agg #[.int .u64 id, .int .i64 ft, .int .i64 ad, .string lb, .int .i64 hr, .bool mu, .bool idf], .string s] w fun e w' => ∃ d' n, e = .returned (.tuple #[devV d', .int .i64 n]) ∧ Hid (putD ⟨id, ft, ad, lb, hr, mu, idf⟩ 130 s = (d', n)) ∧ Below w.heap.size w w' := by
  go_enter Try.func69, Try.ntmps69
  go_wp2_with (go_at_call 43; refine (Label_any _ _ hs).mono ?_; rintro e w' ⟨rfl, rfl⟩)
  · have h : lblE s = 13 := eq_of_beq (by assumption)
    refine bodyPost_ret (v := .tuple #[devV ⟨id, ft, ad, lb, hr, mu, idf⟩, .int .i64 2]) ?_ rfl ⟨_, _, rfl, ?_, ?_⟩
    · simp [results, Try.results69, go_sem, *]
    · show putD _ 130 s = _; grind [putD, lblE]
    · (repeat' (first | (with_reducible exact Below.refl _ _) | (with_reducible assumption) | (with_reducible refine below_run ?_ (by assumption)) | (with_reducible refine below_drewN ?_ _) | (with_reducible refine Below.drew ?_) | (with_reducible refine Below.setCell ?_ ?_ _) | (with_reducible refine Below.alloc ?_ ?_ _) | (with_reducible refine below_after ?_ ?_ (by assumption)) | (show _ ≤ _; first | omega | (simp; done) | (simp; omega))))
  · have h0 : lblE s ≠ 13 := ne_of_beq (by assumption)
    have h : lblE s ≠ 0 := ne_of_bne (by assumption)
    refine bodyPost_ret (v := .tuple #[devV ⟨id, ft, ad, lb, hr, mu, idf⟩, .int .i64 3]) ?_ rfl ⟨_, _, rfl, ?_, ?_⟩
    · simp [results, Try.results69, go_sem, *]
    · show putD _ 130 s = _; grind [putD, lblE]
    · (repeat' (first | (with_reducible exact Below.refl _ _) | (with_reducible assumption) | (with_reducible refine below_run ?_ (by assumption)) | (with_reducible refine below_drewN ?_ _) | (with_reducible refine Below.drew ?_) | (with_reducible refine Below.setCell ?_ ?_ _) | (with_reducible refine Below.alloc ?_ ?_ _) | (with_reducible refine below_after ?_ ?_ (by assumption)) | (show _ ≤ _; first | omega | (simp; done) | (simp; omega))))
  · have h : lblE s = 0 := eq_of_bne (by assumption)
    refine bodyPost_ret (v := .tuple #[devV ⟨id, ft, ad, s, hr, mu, idf⟩, .int .i64 (-1)]) ?_ rfl ⟨_, _, rfl, ?_, ?_⟩
    · simp [results, Try.results69, go_sem, *]
    · show putD _ 130 s = _; grind [putD, lblE]
    · (repeat' (first | (with_reducible exact Below.refl _ _) | (with_reducible assumption) | (with_reducible refine below_run ?_ (by assumption)) | (with_reducible refine below_drewN ?_ _) | (with_reducible refine Below.drew ?_) | (with_reducible refine Below.setCell ?_ ?_ _) | (with_reducible refine Below.alloc ?_ ?_ _) | (with_reducible refine below_after ?_ ?_ (by assumption)) | (show _ ≤ _; first | omega | (simp; done) | (simp; omega))))

end Go.Proofs.Ytnckalgljfplhaa
