/-
  The contracts of New, Work and Slots.
-/
import Derived.Test.YtnckalgljfplhaaTopS
namespace Go.Proofs.Ytnckalgljfplhaa
open Go.RowKit

theorem ext2 (s : ByteArray) (ad ft : Int) (h1 : 1 ≤ ad) (h2 : 1 ≤ ft) (h3 : ad - 1 + ft ≤ s.size) : (s.extract (ad.toNat - 1) s.size).extract 0 ft.toNat = s.extract (ad - 1).toNat (ad - 1 + ft).toNat := by
  rw [ByteArray.extract_extract]
  congr 1 <;> omega

set_option maxHeartbeats 1000000 in
set_option maxRecDepth 100000 in
theorem work_top (id ft ad hr ho : Int) (lb : ByteArray) (mu idf : Bool) (w : World) : Calls Try.prog 28 #[.agg #[.int .u64 id, .int .i64 ft, .int .i64 ad, .string lb, .int .i64 hr, .bool mu, .bool idf], .int .i64 ho] w (DevPost (workD ⟨id, ft, ad, lb, hr, mu, idf⟩ ho) w) := by
  obtain ⟨n1, h1⟩ : ∃ n, chkD ⟨id, ft, ad, lb, hr, mu, idf⟩ = n := ⟨_, rfl⟩
  have H1 := Lib.hid h1
  clear h1
  by_cases z1 : n1 = 0
  · subst z1
    obtain ⟨f1, f2, f3, f4, f5, f6, f7, f8⟩ := fine_open (fine_of_chk _ H1.out)
    by_cases hh : ho < 0 ∨ 4294967295 < ho
    · have hw : workD ⟨id, ft, ad, lb, hr, mu, idf⟩ ho = (zeroD, 2) := by rw [workD, if_neg (not_not_intro H1.out), if_pos hh]
      rw [hw]
      clear hw
      go_enter Try.func28, Try.ntmps28
      rcases hh with hh | hh
      all_goals
        go_wp2_with (go_at_call 22; refine (dchk_is 0 _ _ _ _ _ _ _ _ H1).mono ?_; rintro e w1 ⟨rfl, hb⟩; have hz := hb.size; (try simp at hz); obtain ⟨hc, hf, hT1, hT2, hT3, hT4, hz⟩ := bfacts (n := w.heap.size + 2) hb (by first | (simp; done) | (simp; omega) | omega))
        refine bodyPost_ret (v := .tuple #[devV zeroD, .int .i64 2]) ?_ rfl ⟨rfl, by (repeat' (first | (with_reducible exact Below.refl _ _) | (with_reducible assumption) | (with_reducible refine below_run ?_ (by assumption)) | (with_reducible refine below_of_upd ?_ (by assumption) ?_) | (with_reducible refine below_drewN ?_ _) | (with_reducible refine Below.drew ?_) | (with_reducible refine Below.setCell ?_ ?_ _) | (with_reducible refine Below.alloc ?_ ?_ _) | (with_reducible refine below_after ?_ ?_ (by assumption)) | (show _ ≤ _; first | omega | (simp; done) | (simp; omega))))⟩
        simp [results, Try.results28, go_sem, zeroD, *]
    · obtain ⟨m, hm⟩ : ∃ m, min (hr + ho) 4294967295 = m := ⟨_, rfl⟩
      have hw : workD ⟨id, ft, ad, lb, hr, mu, idf⟩ ho = (⟨id, ft, ad, lb, m, mu, idf⟩, 0) := by rw [workD, if_neg (not_not_intro H1.out), if_neg hh, ← hm]
      have HM := Lib.hid hm
      clear hm
      have h1 : 0 ≤ ho := by omega
      have h2 : ho ≤ 4294967295 := by omega
      have h3 : ¬ ho < 0 := by omega
      rw [hw]
      clear hw hh
      go_enter Try.func28, Try.ntmps28
      go_wp2_with (go_at_call 22; refine (dchk_is 0 _ _ _ _ _ _ _ _ H1).mono ?_; rintro e w1 ⟨rfl, hb⟩; have hz := hb.size; (try simp at hz); obtain ⟨hc, hf, hT1, hT2, hT3, hT4, hz⟩ := bfacts (n := w.heap.size + 2) hb (by first | (simp; done) | (simp; omega) | omega))
      all_goals (refine bodyPost_ret (v := .tuple #[devV ⟨id, ft, ad, lb, m, mu, idf⟩, .int .i64 0]) ?_ rfl ⟨rfl, by (repeat' (first | (with_reducible exact Below.refl _ _) | (with_reducible assumption) | (with_reducible refine below_run ?_ (by assumption)) | (with_reducible refine below_of_upd ?_ (by assumption) ?_) | (with_reducible refine below_drewN ?_ _) | (with_reducible refine Below.drew ?_) | (with_reducible refine Below.setCell ?_ ?_ _) | (with_reducible refine Below.alloc ?_ ?_ _) | (with_reducible refine below_after ?_ ?_ (by assumption)) | (show _ ≤ _; first | omega | (simp; done) | (simp; omega))))⟩; simp [results, go_sem, *]; have hm := HM.out; omega)
  · have e2 : (n1 != 0) = true := by simpa using z1
    rw [workD_bad H1.out z1]
    clear z1
    go_enter Try.func28, Try.ntmps28
    go_wp2_with (go_at_call 22; refine (dchk_is n1 _ _ _ _ _ _ _ _ H1).mono ?_; rintro e w1 ⟨rfl, hb⟩; have hz := hb.size; (try simp at hz); obtain ⟨hc, hf, hT1, hT2, hT3, hT4, hz⟩ := bfacts (n := w.heap.size + 2) hb (by first | (simp; done) | (simp; omega) | omega))
    refine bodyPost_ret (v := .tuple #[devV zeroD, .int .i64 n1]) ?_ rfl ⟨rfl, by (repeat' (first | (with_reducible exact Below.refl _ _) | (with_reducible assumption) | (with_reducible refine below_run ?_ (by assumption)) | (with_reducible refine below_of_upd ?_ (by assumption) ?_) | (with_reducible refine below_drewN ?_ _) | (with_reducible refine Below.drew ?_) | (with_reducible refine Below.setCell ?_ ?_ _) | (with_reducible refine Below.alloc ?_ ?_ _) | (with_reducible refine below_after ?_ ?_ (by assumption)) | (show _ ≤ _; first | omega | (simp; done) | (simp; omega))))⟩
    simp [results, Try.results28, go_sem, zeroD, *]
set_option maxHeartbeats 1000000 in
set_option maxRecDepth 100000 in
theorem refwork_top (id ft ad hr ho : Int) (lb : ByteArray) (mu idf : Bool) (w : World) (hl : lb.size ≤ 9223372036854775807) : Calls Try.prog 29 #[.agg #[.int .u64 id, .int .i64 ft, .int .i64 ad, .string lb, .int .i64 hr, .bool mu, .bool idf], .int .i64 ho] w (DevPost (workD ⟨id, ft, ad, lb, hr, mu, idf⟩ ho) w) := by
  obtain ⟨n1, h1⟩ : ∃ n, chkD ⟨id, ft, ad, lb, hr, mu, idf⟩ = n := ⟨_, rfl⟩
  have H1 := Lib.hid h1
  clear h1
  by_cases z1 : n1 = 0
  · subst z1
    obtain ⟨f1, f2, f3, f4, f5, f6, f7, f8⟩ := fine_open (fine_of_chk _ H1.out)
    by_cases hh : ho < 0 ∨ 4294967295 < ho
    · have hw : workD ⟨id, ft, ad, lb, hr, mu, idf⟩ ho = (zeroD, 2) := by rw [workD, if_neg (not_not_intro H1.out), if_pos hh]
      rw [hw]
      clear hw
      go_enter Try.func29, Try.ntmps29
      rcases hh with hh | hh
      all_goals
        go_wp2_with (go_at_call 15; refine (refdchk_is 0 _ _ _ _ _ _ _ _ H1 hl).mono ?_; rintro e w1 ⟨rfl, hb⟩; have hz := hb.size; (try simp at hz); obtain ⟨hc, hf, hT1, hT2, hT3, hT4, hz⟩ := bfacts (n := w.heap.size + 2) hb (by first | (simp; done) | (simp; omega) | omega))
        refine bodyPost_ret (v := .tuple #[devV zeroD, .int .i64 2]) ?_ rfl ⟨rfl, by (repeat' (first | (with_reducible exact Below.refl _ _) | (with_reducible assumption) | (with_reducible refine below_run ?_ (by assumption)) | (with_reducible refine below_of_upd ?_ (by assumption) ?_) | (with_reducible refine below_drewN ?_ _) | (with_reducible refine Below.drew ?_) | (with_reducible refine Below.setCell ?_ ?_ _) | (with_reducible refine Below.alloc ?_ ?_ _) | (with_reducible refine below_after ?_ ?_ (by assumption)) | (show _ ≤ _; first | omega | (simp; done) | (simp; omega))))⟩
        simp [results, Try.results29, go_sem, zeroD, *]
    · obtain ⟨m, hm⟩ : ∃ m, min (hr + ho) 4294967295 = m := ⟨_, rfl⟩
      have hw : workD ⟨id, ft, ad, lb, hr, mu, idf⟩ ho = (⟨id, ft, ad, lb, m, mu, idf⟩, 0) := by rw [workD, if_neg (not_not_intro H1.out), if_neg hh, ← hm]
      have HM := Lib.hid hm
      clear hm
      have h1 : 0 ≤ ho := by omega
      have h2 : ho ≤ 4294967295 := by omega
      have h3 : ¬ ho < 0 := by omega
      rw [hw]
      clear hw hh
      go_enter Try.func29, Try.ntmps29
      go_wp2_with (go_at_call 15; refine (refdchk_is 0 _ _ _ _ _ _ _ _ H1 hl).mono ?_; rintro e w1 ⟨rfl, hb⟩; have hz := hb.size; (try simp at hz); obtain ⟨hc, hf, hT1, hT2, hT3, hT4, hz⟩ := bfacts (n := w.heap.size + 2) hb (by first | (simp; done) | (simp; omega) | omega))
      all_goals (refine bodyPost_ret (v := .tuple #[devV ⟨id, ft, ad, lb, m, mu, idf⟩, .int .i64 0]) ?_ rfl ⟨rfl, by (repeat' (first | (with_reducible exact Below.refl _ _) | (with_reducible assumption) | (with_reducible refine below_run ?_ (by assumption)) | (with_reducible refine below_of_upd ?_ (by assumption) ?_) | (with_reducible refine below_drewN ?_ _) | (with_reducible refine Below.drew ?_) | (with_reducible refine Below.setCell ?_ ?_ _) | (with_reducible refine Below.alloc ?_ ?_ _) | (with_reducible refine below_after ?_ ?_ (by assumption)) | (show _ ≤ _; first | omega | (simp; done) | (simp; omega))))⟩; simp [results, go_sem, *]; have hm := HM.out; omega)
  · have e2 : (n1 != 0) = true := by simpa using z1
    rw [workD_bad H1.out z1]
    clear z1
    go_enter Try.func29, Try.ntmps29
    go_wp2_with (go_at_call 15; refine (refdchk_is n1 _ _ _ _ _ _ _ _ H1 hl).mono ?_; rintro e w1 ⟨rfl, hb⟩; have hz := hb.size; (try simp at hz); obtain ⟨hc, hf, hT1, hT2, hT3, hT4, hz⟩ := bfacts (n := w.heap.size + 2) hb (by first | (simp; done) | (simp; omega) | omega))
    refine bodyPost_ret (v := .tuple #[devV zeroD, .int .i64 n1]) ?_ rfl ⟨rfl, by (repeat' (first | (with_reducible exact Below.refl _ _) | (with_reducible assumption) | (with_reducible refine below_run ?_ (by assumption)) | (with_reducible refine below_of_upd ?_ (by assumption) ?_) | (with_reducible refine below_drewN ?_ _) | (with_reducible refine Below.drew ?_) | (with_reducible refine Below.setCell ?_ ?_ _) | (with_reducible refine Below.alloc ?_ ?_ _) | (with_reducible refine below_after ?_ ?_ (by assumption)) | (show _ ≤ _; first | omega | (simp; done) | (simp; omega))))⟩
    simp [results, Try.results29, go_sem, zeroD, *]

set_option maxHeartbeats 1000000 in
set_option maxRecDepth 100000 in
theorem slots_top (id ft ad hr : Int) (lb s : ByteArray) (mu idf : Bool) (w : World) : Calls Try.prog 30 #[.agg #[.int .u64 id, .int .i64 ft, .int .i64 ad, .string lb, .int .i64 hr, .bool mu, .bool idf], .string s] w (StrPost (slotsD ⟨id, ft, ad, lb, hr, mu, idf⟩ s) w) := by
  obtain ⟨n1, h1⟩ : ∃ n, chkD ⟨id, ft, ad, lb, hr, mu, idf⟩ = n := ⟨_, rfl⟩
  have H1 := Lib.hid h1
  clear h1
  by_cases z1 : n1 = 0
  · subst z1
    obtain ⟨f1, f2, f3, f4, f5, f6, f7, f8⟩ := fine_open (fine_of_chk _ H1.out)
    have f9 : ad + ft - 1 ≤ 512 := by have := H1.out; grind [chkD, bodyBad, fitsB]
    by_cases hs : s.size = 512
    · have hw : slotsD ⟨id, ft, ad, lb, hr, mu, idf⟩ s = (s.extract (ad - 1).toNat (ad - 1 + ft).toNat, 0) := by rw [slotsD, if_neg (not_not_intro H1.out), if_neg (not_not_intro hs)]
      have s1 : ((s.size : Int) != 512) = false := by simp; omega
      have s2 : 0 ≤ ad - 1 := by omega
      have s3 : ad - 1 ≤ (s.size : Int) := by omega
      have s4 : ad - 1 + ft ≤ (s.size : Int) := by omega
      have s5 : ad - 1 ≤ ad - 1 + ft := by omega
      have s6 : ft ≤ (s.size : Int) - (ad - 1) := by omega
      have HS := Lib.hid hs
      have HW := Lib.hid hw
      clear hs hw
      go_enter Try.func30, Try.ntmps30
      go_wp2_with (go_at_call 22; refine (dchk_is 0 _ _ _ _ _ _ _ _ H1).mono ?_; rintro e w1 ⟨rfl, hb⟩; have hz := hb.size; (try simp at hz); obtain ⟨hc, hf, hT1, hT2, hT3, hT4, hz⟩ := bfacts (n := w.heap.size + 1) hb (by first | (simp; done) | (simp; omega) | omega))
      go_quiet (fail)
      go_wp2
      rw [HW.out]
      go_ret2
      exact ⟨by rw [← ext2 s ad ft f5 f3 s4]; rfl, by (repeat' (first | (with_reducible exact Below.refl _ _) | (with_reducible assumption) | (with_reducible refine below_run ?_ (by assumption)) | (with_reducible refine below_of_upd ?_ (by assumption) ?_) | (with_reducible refine below_drewN ?_ _) | (with_reducible refine Below.drew ?_) | (with_reducible refine Below.setCell ?_ ?_ _) | (with_reducible refine Below.alloc ?_ ?_ _) | (with_reducible refine below_after ?_ ?_ (by assumption)) | (show _ ≤ _; first | omega | (simp; done) | (simp; omega))))⟩
    · have hw : slotsD ⟨id, ft, ad, lb, hr, mu, idf⟩ s = (⟨#[]⟩, 14) := by rw [slotsD, if_neg (not_not_intro H1.out), if_pos hs]
      have s1 : ((s.size : Int) != 512) = true := by simp; omega
      have HW := Lib.hid hw
      clear hs hw
      go_enter Try.func30, Try.ntmps30
      go_wp2_with (go_at_call 22; refine (dchk_is 0 _ _ _ _ _ _ _ _ H1).mono ?_; rintro e w1 ⟨rfl, hb⟩; have hz := hb.size; (try simp at hz); obtain ⟨hc, hf, hT1, hT2, hT3, hT4, hz⟩ := bfacts (n := w.heap.size + 1) hb (by first | (simp; done) | (simp; omega) | omega))
      rw [HW.out]
      go_ret2
      exact ⟨rfl, by (repeat' (first | (with_reducible exact Below.refl _ _) | (with_reducible assumption) | (with_reducible refine below_run ?_ (by assumption)) | (with_reducible refine below_of_upd ?_ (by assumption) ?_) | (with_reducible refine below_drewN ?_ _) | (with_reducible refine Below.drew ?_) | (with_reducible refine Below.setCell ?_ ?_ _) | (with_reducible refine Below.alloc ?_ ?_ _) | (with_reducible refine below_after ?_ ?_ (by assumption)) | (show _ ≤ _; first | omega | (simp; done) | (simp; omega))))⟩
  · have e2 : (n1 != 0) = true := by simpa using z1
    rw [slotsD_bad H1.out z1]
    clear z1
    go_enter Try.func30, Try.ntmps30
    go_wp2_with (go_at_call 22; refine (dchk_is n1 _ _ _ _ _ _ _ _ H1).mono ?_; rintro e w1 ⟨rfl, hb⟩; have hz := hb.size; (try simp at hz); obtain ⟨hc, hf, hT1, hT2, hT3, hT4, hz⟩ := bfacts (n := w.heap.size + 1) hb (by first | (simp; done) | (simp; omega) | omega))
    go_ret2
    exact ⟨rfl, by (repeat' (first | (with_reducible exact Below.refl _ _) | (with_reducible assumption) | (with_reducible refine below_run ?_ (by assumption)) | (with_reducible refine below_of_upd ?_ (by assumption) ?_) | (with_reducible refine below_drewN ?_ _) | (with_reducible refine Below.drew ?_) | (with_reducible refine Below.setCell ?_ ?_ _) | (with_reducible refine Below.alloc ?_ ?_ _) | (with_reducible refine below_after ?_ ?_ (by assumption)) | (show _ ≤ _; first | omega | (simp; done) | (simp; omega))))⟩

set_option maxHeartbeats 1000000 in
set_option maxRecDepth 100000 in
theorem refslots_top (id ft ad hr : Int) (lb s : ByteArray) (mu idf : Bool) (w : World) (hl : lb.size ≤ 9223372036854775807) : Calls Try.prog 31 #[.agg #[.int .u64 id, .int .i64 ft, .int .i64 ad, .string lb, .int .i64 hr, .bool mu, .bool idf], .string s] w (StrPost (slotsD ⟨id, ft, ad, lb, hr, mu, idf⟩ s) w) := by
  obtain ⟨n1, h1⟩ : ∃ n, chkD ⟨id, ft, ad, lb, hr, mu, idf⟩ = n := ⟨_, rfl⟩
  have H1 := Lib.hid h1
  clear h1
  by_cases z1 : n1 = 0
  · subst z1
    obtain ⟨f1, f2, f3, f4, f5, f6, f7, f8⟩ := fine_open (fine_of_chk _ H1.out)
    have f9 : ad + ft - 1 ≤ 512 := by have := H1.out; grind [chkD, bodyBad, fitsB]
    by_cases hs : s.size = 512
    · have hw : slotsD ⟨id, ft, ad, lb, hr, mu, idf⟩ s = (s.extract (ad - 1).toNat (ad - 1 + ft).toNat, 0) := by rw [slotsD, if_neg (not_not_intro H1.out), if_neg (not_not_intro hs)]
      have s1 : ((s.size : Int) != 512) = false := by simp; omega
      have s2 : 0 ≤ ad - 1 := by omega
      have s3 : ad - 1 ≤ (s.size : Int) := by omega
      have s4 : ad - 1 + ft ≤ (s.size : Int) := by omega
      have s5 : ad - 1 ≤ ad - 1 + ft := by omega
      have s6 : ft ≤ (s.size : Int) - (ad - 1) := by omega
      have HS := Lib.hid hs
      have HW := Lib.hid hw
      clear hs hw
      go_enter Try.func31, Try.ntmps31
      go_wp2_with (go_at_call 15; refine (refdchk_is 0 _ _ _ _ _ _ _ _ H1 hl).mono ?_; rintro e w1 ⟨rfl, hb⟩; have hz := hb.size; (try simp at hz); obtain ⟨hc, hf, hT1, hT2, hT3, hT4, hz⟩ := bfacts (n := w.heap.size + 1) hb (by first | (simp; done) | (simp; omega) | omega))
      rw [HW.out]
      go_ret2
      have e1 : (ad - 1).toNat = ad.toNat - 1 := by omega
      exact ⟨by rw [e1]; rfl, by (repeat' (first | (with_reducible exact Below.refl _ _) | (with_reducible assumption) | (with_reducible refine below_run ?_ (by assumption)) | (with_reducible refine below_of_upd ?_ (by assumption) ?_) | (with_reducible refine below_drewN ?_ _) | (with_reducible refine Below.drew ?_) | (with_reducible refine Below.setCell ?_ ?_ _) | (with_reducible refine Below.alloc ?_ ?_ _) | (with_reducible refine below_after ?_ ?_ (by assumption)) | (show _ ≤ _; first | omega | (simp; done) | (simp; omega))))⟩
    · have hw : slotsD ⟨id, ft, ad, lb, hr, mu, idf⟩ s = (⟨#[]⟩, 14) := by rw [slotsD, if_neg (not_not_intro H1.out), if_pos hs]
      have s1 : ((s.size : Int) != 512) = true := by simp; omega
      have HW := Lib.hid hw
      clear hs hw
      go_enter Try.func31, Try.ntmps31
      go_wp2_with (go_at_call 15; refine (refdchk_is 0 _ _ _ _ _ _ _ _ H1 hl).mono ?_; rintro e w1 ⟨rfl, hb⟩; have hz := hb.size; (try simp at hz); obtain ⟨hc, hf, hT1, hT2, hT3, hT4, hz⟩ := bfacts (n := w.heap.size + 1) hb (by first | (simp; done) | (simp; omega) | omega))
      rw [HW.out]
      go_ret2
      exact ⟨rfl, by (repeat' (first | (with_reducible exact Below.refl _ _) | (with_reducible assumption) | (with_reducible refine below_run ?_ (by assumption)) | (with_reducible refine below_of_upd ?_ (by assumption) ?_) | (with_reducible refine below_drewN ?_ _) | (with_reducible refine Below.drew ?_) | (with_reducible refine Below.setCell ?_ ?_ _) | (with_reducible refine Below.alloc ?_ ?_ _) | (with_reducible refine below_after ?_ ?_ (by assumption)) | (show _ ≤ _; first | omega | (simp; done) | (simp; omega))))⟩
  · have e2 : (n1 != 0) = true := by simpa using z1
    rw [slotsD_bad H1.out z1]
    clear z1
    go_enter Try.func31, Try.ntmps31
    go_wp2_with (go_at_call 15; refine (refdchk_is n1 _ _ _ _ _ _ _ _ H1 hl).mono ?_; rintro e w1 ⟨rfl, hb⟩; have hz := hb.size; (try simp at hz); obtain ⟨hc, hf, hT1, hT2, hT3, hT4, hz⟩ := bfacts (n := w.heap.size + 1) hb (by first | (simp; done) | (simp; omega) | omega))
    go_ret2
    exact ⟨rfl, by (repeat' (first | (with_reducible exact Below.refl _ _) | (with_reducible assumption) | (with_reducible refine below_run ?_ (by assumption)) | (with_reducible refine below_of_upd ?_ (by assumption) ?_) | (with_reducible refine below_drewN ?_ _) | (with_reducible refine Below.drew ?_) | (with_reducible refine Below.setCell ?_ ?_ _) | (with_reducible refine Below.alloc ?_ ?_ _) | (with_reducible refine below_after ?_ ?_ (by assumption)) | (show _ ≤ _; first | omega | (simp; done) | (simp; omega))))⟩

theorem new_chk (id ft : Int) : (newD id ft).2 = chkD ⟨id, ft, 1, ⟨#[]⟩, 0, false, false⟩ := by
  have hl : lblE ⟨#[]⟩ = 0 := by decide
  grind [newD, chkD, bodyBad, fitsB]

set_option maxHeartbeats 1000000 in
set_option maxRecDepth 100000 in
theorem new_top (id ft : Int) (w : World) : Calls Try.prog 26 #[.int .u64 id, .int .i64 ft] w (DevPost (newD id ft) w) := by
  have hn := new_chk id ft
  by_cases h : isId id = false ∨ ft < 1 ∨ 512 < ft
  · have hw : newD id ft = (zeroD, 2) := by rw [newD, if_pos h]
    rw [hw] at hn ⊢
    have HN := Lib.hid hn.symm
    have e2 : ((2 : Int) != 0) = true := rfl
    clear hn hw h
    go_enter Try.func26, Try.ntmps26
    go_wp2_with (go_at_call 22; refine (dchk_is 2 _ _ _ _ _ _ _ _ HN).mono ?_; rintro e w1 ⟨rfl, hb⟩; have hz := hb.size; (try simp at hz); obtain ⟨hc, hf, hT1, hT2, hT3, hT4, hz⟩ := bfacts (n := w.heap.size + 2) hb (by first | (simp; done) | (simp; omega) | omega))
    refine bodyPost_ret (v := .tuple #[devV zeroD, .int .i64 2]) ?_ rfl ⟨rfl, by (repeat' (first | (with_reducible exact Below.refl _ _) | (with_reducible assumption) | (with_reducible refine below_run ?_ (by assumption)) | (with_reducible refine below_of_upd ?_ (by assumption) ?_) | (with_reducible refine below_drewN ?_ _) | (with_reducible refine Below.drew ?_) | (with_reducible refine Below.setCell ?_ ?_ _) | (with_reducible refine Below.alloc ?_ ?_ _) | (with_reducible refine below_after ?_ ?_ (by assumption)) | (show _ ≤ _; first | omega | (simp; done) | (simp; omega))))⟩
    simp [results, Try.results26, go_sem, zeroD, *]
  · have hw : newD id ft = (⟨id, ft, 1, ⟨#[]⟩, 0, false, false⟩, 0) := by rw [newD, if_neg h]
    rw [hw] at hn ⊢
    have HN := Lib.hid hn.symm
    clear hn hw h
    go_enter Try.func26, Try.ntmps26
    go_wp2_with (go_at_call 22; refine (dchk_is 0 _ _ _ _ _ _ _ _ HN).mono ?_; rintro e w1 ⟨rfl, hb⟩; have hz := hb.size; (try simp at hz); obtain ⟨hc, hf, hT1, hT2, hT3, hT4, hz⟩ := bfacts (n := w.heap.size + 2) hb (by first | (simp; done) | (simp; omega) | omega))
    refine bodyPost_ret (v := .tuple #[devV ⟨id, ft, 1, ⟨#[]⟩, 0, false, false⟩, .int .i64 0]) ?_ rfl ⟨rfl, by (repeat' (first | (with_reducible exact Below.refl _ _) | (with_reducible assumption) | (with_reducible refine below_run ?_ (by assumption)) | (with_reducible refine below_of_upd ?_ (by assumption) ?_) | (with_reducible refine below_drewN ?_ _) | (with_reducible refine Below.drew ?_) | (with_reducible refine Below.setCell ?_ ?_ _) | (with_reducible refine Below.alloc ?_ ?_ _) | (with_reducible refine below_after ?_ ?_ (by assumption)) | (show _ ≤ _; first | omega | (simp; done) | (simp; omega))))⟩
    simp [results, Try.results26, go_sem, *]

set_option maxHeartbeats 1000000 in
set_option maxRecDepth 100000 in
theorem refnew_top (id ft : Int) (w : World) : Calls Try.prog 27 #[.int .u64 id, .int .i64 ft] w (DevPost (newD id ft) w) := by
  obtain ⟨q, hq⟩ : ∃ q, isId id = q := ⟨_, rfl⟩
  have HQ := Lib.hid hq
  clear hq
  go_enter Try.func27, Try.ntmps27
  go_wp2_with (go_at_call 41; refine (Is_any _ _).mono ?_; rintro e w1 ⟨rfl, rfl⟩; rw [HQ.out])
  · have hw : newD id ft = (zeroD, 2) := by rw [newD, HQ.out, if_pos (by right; assumption)]
    rw [hw]
    refine bodyPost_ret (v := .tuple #[devV zeroD, .int .i64 2]) ?_ rfl ⟨rfl, by (repeat' (first | (with_reducible exact Below.refl _ _) | (with_reducible assumption) | (with_reducible refine below_run ?_ (by assumption)) | (with_reducible refine below_of_upd ?_ (by assumption) ?_) | (with_reducible refine below_drewN ?_ _) | (with_reducible refine Below.drew ?_) | (with_reducible refine Below.setCell ?_ ?_ _) | (with_reducible refine Below.alloc ?_ ?_ _) | (with_reducible refine below_after ?_ ?_ (by assumption)) | (show _ ≤ _; first | omega | (simp; done) | (simp; omega))))⟩
    simp [results, Try.results27, go_sem, zeroD, *]
  · have h1 : q = true := by assumption
    have h2 : 1 ≤ ft ∧ ft ≤ 512 := by assumption
    have hw : newD id ft = (⟨id, ft, 1, ⟨#[]⟩, 0, false, false⟩, 0) := by rw [newD, HQ.out, if_neg (by simp [h1]; omega)]
    rw [hw]
    refine bodyPost_ret (v := .tuple #[devV ⟨id, ft, 1, ⟨#[]⟩, 0, false, false⟩, .int .i64 0]) ?_ rfl ⟨rfl, by (repeat' (first | (with_reducible exact Below.refl _ _) | (with_reducible assumption) | (with_reducible refine below_run ?_ (by assumption)) | (with_reducible refine below_of_upd ?_ (by assumption) ?_) | (with_reducible refine below_drewN ?_ _) | (with_reducible refine Below.drew ?_) | (with_reducible refine Below.setCell ?_ ?_ _) | (with_reducible refine Below.alloc ?_ ?_ _) | (with_reducible refine below_after ?_ ?_ (by assumption)) | (show _ ≤ _; first | omega | (simp; done) | (simp; omega))))⟩
    simp [results, Try.results27, go_sem, *]
  · have h2 : ft < 1 := by assumption
    have hw : newD id ft = (zeroD, 2) := by rw [newD, HQ.out, if_pos (by right; left; exact h2)]
    rw [hw]
    refine bodyPost_ret (v := .tuple #[devV zeroD, .int .i64 2]) ?_ rfl ⟨rfl, by (repeat' (first | (with_reducible exact Below.refl _ _) | (with_reducible assumption) | (with_reducible refine below_run ?_ (by assumption)) | (with_reducible refine below_of_upd ?_ (by assumption) ?_) | (with_reducible refine below_drewN ?_ _) | (with_reducible refine Below.drew ?_) | (with_reducible refine Below.setCell ?_ ?_ _) | (with_reducible refine Below.alloc ?_ ?_ _) | (with_reducible refine below_after ?_ ?_ (by assumption)) | (show _ ≤ _; first | omega | (simp; done) | (simp; omega))))⟩
    simp [results, Try.results27, go_sem, zeroD, *]
  · have h1 : ¬ q = true := by assumption
    have hw : newD id ft = (zeroD, 2) := by rw [newD, HQ.out, if_pos (by left; simpa using h1)]
    rw [hw]
    refine bodyPost_ret (v := .tuple #[devV zeroD, .int .i64 2]) ?_ rfl ⟨rfl, by (repeat' (first | (with_reducible exact Below.refl _ _) | (with_reducible assumption) | (with_reducible refine below_run ?_ (by assumption)) | (with_reducible refine below_of_upd ?_ (by assumption) ?_) | (with_reducible refine below_drewN ?_ _) | (with_reducible refine Below.drew ?_) | (with_reducible refine Below.setCell ?_ ?_ _) | (with_reducible refine Below.alloc ?_ ?_ _) | (with_reducible refine below_after ?_ ?_ (by assumption)) | (show _ ≤ _; first | omega | (simp; done) | (simp; omega))))⟩
    simp [results, Try.results27, go_sem, zeroD, *]

end Go.Proofs.Ytnckalgljfplhaa
