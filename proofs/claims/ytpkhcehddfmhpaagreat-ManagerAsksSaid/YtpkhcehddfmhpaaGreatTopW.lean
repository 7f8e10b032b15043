/-
  The contracts of the small exported functions on devices.
  The contracts of New, Work and Slots.
-/
import Derived.Test.YtpkhcehddfmhpaaGreatTop
namespace Go.Proofs.YtpkhcehddfmhpaaGreat
open Go.RowKit

/-- What is read of a device. -/
def readD (d : Dev) (p : Int) : ByteArray × Int × Int := if chkD d ≠ 0 then (⟨#[]⟩, 0, chkD d) else ((shownD d p).1, (shownD d p).2, 0)
def ReadPost (r : ByteArray × Int × Int) (w : World) (e : Ending) (w' : World) : Prop := e = .returned (.tuple #[.string r.1, .int .i64 r.2.1, .int .i64 r.2.2]) ∧ Below w.heap.size w w'
/-- What is written to a device. -/
def writeD (d : Dev) (p : Int) (s : ByteArray) : Dev × Int × Int := if chkD d ≠ 0 then (zeroD, 0, chkD d) else ((putD d p s).1, (putD d p s).2, 0)
def WritePost (r : Dev × Int × Int) (w : World) (e : Ending) (w' : World) : Prop := e = .returned (.tuple #[devV r.1, .int .i64 r.2.1, .int .i64 r.2.2]) ∧ Below w.heap.size w w'
/-- A new device. -/
def newD (id ft : Int) : Dev × Int := if isId id = false ∨ ft < 1 ∨ 512 < ft then (zeroD, 2) else (⟨id, ft, 1, ⟨#[]⟩, 0, false, false⟩, 0)
def DevPost (r : Dev × Int) (w : World) (e : Ending) (w' : World) : Prop := e = .returned (.tuple #[devV r.1, .int .i64 r.2]) ∧ Below w.heap.size w w'
/-- A device with more hours. -/
def workD (d : Dev) (h : Int) : Dev × Int := if chkD d ≠ 0 then (zeroD, chkD d) else if h < 0 ∨ 4294967295 < h then (zeroD, 2) else ({ d with hr := min (d.hr + h) 4294967295 }, 0)
/-- The slots of a device. -/
def slotsD (d : Dev) (s : ByteArray) : ByteArray × Int := if chkD d ≠ 0 then (⟨#[]⟩, chkD d) else if s.size ≠ 512 then (⟨#[]⟩, 14) else (s.extract (d.ad - 1).toNat (d.ad - 1 + d.ft).toNat, 0)
def StrPost (r : ByteArray × Int) (w : World) (e : Ending) (w' : World) : Prop := e = .returned (.tuple #[.string r.1, .int .i64 r.2]) ∧ Below w.heap.size w w'

theorem readD_bad {d : Dev} {p n : Int} (h : chkD d = n) (hn : n ≠ 0) : readD d p = (⟨#[]⟩, 0, n) := by subst h; rw [readD, if_pos hn]
theorem readD_ok {d : Dev} {p r : Int} {s : ByteArray} (h : chkD d = 0) (hs : shownD d p = (s, r)) : readD d p = (s, r, 0) := by rw [readD, if_neg (not_not_intro h), hs]
theorem writeD_bad {d : Dev} {p n : Int} {s : ByteArray} (h : chkD d = n) (hn : n ≠ 0) : writeD d p s = (zeroD, 0, n) := by subst h; rw [writeD, if_pos hn]
theorem writeD_ok {d d' : Dev} {p r : Int} {s : ByteArray} (h : chkD d = 0) (hs : putD d p s = (d', r)) : writeD d p s = (d', r, 0) := by rw [writeD, if_neg (not_not_intro h), hs]
theorem workD_bad {d : Dev} {h n : Int} (hc : chkD d = n) (hn : n ≠ 0) : workD d h = (zeroD, n) := by subst hc; rw [workD, if_pos hn]
theorem slotsD_bad {d : Dev} {s : ByteArray} {n : Int} (hc : chkD d = n) (hn : n ≠ 0) : slotsD d s = (⟨#[]⟩, n) := by subst hc; rw [slotsD, if_pos hn]

end Go.Proofs.YtpkhcehddfmhpaaGreat

namespace Go.Proofs.YtpkhcehddfmhpaaGreat
open Go.RowKit

theorem ext2 (s : ByteArray) (ad ft : Int) (h1 : 1 ≤ ad) (h2 : 1 ≤ ft) (h3 : ad - 1 + ft ≤ s.size) : (s.extract (ad.toNat - 1) s.size).extract 0 ft.toNat = s.extract (ad - 1).toNat (ad - 1 + ft).toNat := by
  rw [ByteArray.extract_extract]
  congr 1 <;> omega

theorem new_chk (id ft : Int) : (newD id ft).2 = chkD ⟨id, ft, 1, ⟨#[]⟩, 0, false, false⟩ := by
  have hl : lblE ⟨#[]⟩ = 0 := by decide
  grind [newD, chkD, bodyBad, fitsB]

set_option maxHeartbeats 1000000 in
set_option maxRecDepth 100000 in
theorem new_top (id ft : Int) (w : World) : Calls Tryz.prog 62 #[.int .u64 id, .int .i64 ft] w (DevPost (newD id ft) w) := by
  have hn := new_chk id ft
  by_cases h : isId id = false ∨ ft < 1 ∨ 512 < ft
  · have hw : newD id ft = (zeroD, 2) := by rw [newD, if_pos h]
    rw [hw] at hn ⊢
    have HN := Lib.hid hn.symm
    have e2 : ((2 : Int) != 0) = true := rfl
    clear hn hw h
    go_enter Tryz.func62, Tryz.ntmps62
    go_wp2_with (go_at_call 86; refine (dchk_is 2 _ _ _ _ _ _ _ _ HN).mono ?_; rintro e w1 ⟨rfl, hb⟩; have hz := hb.size; (try simp at hz); obtain ⟨hc, hf, hT1, hT2, hT3, hT4, hz⟩ := bfacts (n := w.heap.size + 2) hb (by first | (simp; done) | (simp; omega) | omega))
    refine bodyPost_ret (v := .tuple #[devV zeroD, .int .i64 2]) ?_ rfl ⟨rfl, by (repeat' (first | (with_reducible exact Below.refl _ _) | (with_reducible assumption) | (with_reducible refine below_run ?_ (by assumption)) | (with_reducible refine below_of_upd ?_ (by assumption) ?_) | (with_reducible refine below_drewN ?_ _) | (with_reducible refine Below.drew ?_) | (with_reducible refine Below.setCell ?_ ?_ _) | (with_reducible refine Below.alloc ?_ ?_ _) | (with_reducible refine below_after ?_ ?_ (by assumption)) | (show _ ≤ _; first | omega | (simp; done) | (simp; omega))))⟩
    simp [results, Tryz.results62, go_sem, zeroD, *]
  · have hw : newD id ft = (⟨id, ft, 1, ⟨#[]⟩, 0, false, false⟩, 0) := by rw [newD, if_neg h]
    rw [hw] at hn ⊢
    have HN := Lib.hid hn.symm
    clear hn hw h
    go_enter Tryz.func62, Tryz.ntmps62
    go_wp2_with (go_at_call 86; refine (dchk_is 0 _ _ _ _ _ _ _ _ HN).mono ?_; rintro e w1 ⟨rfl, hb⟩; have hz := hb.size; (try simp at hz); obtain ⟨hc, hf, hT1, hT2, hT3, hT4, hz⟩ := bfacts (n := w.heap.size + 2) hb (by first | (simp; done) | (simp; omega) | omega))
    refine bodyPost_ret (v := .tuple #[devV ⟨id, ft, 1, ⟨#[]⟩, 0, false, false⟩, .int .i64 0]) ?_ rfl ⟨rfl, by (repeat' (first | (with_reducible exact Below.refl _ _) | (with_reducible assumption) | (with_reducible refine below_run ?_ (by assumption)) | (with_reducible refine below_of_upd ?_ (by assumption) ?_) | (with_reducible refine below_drewN ?_ _) | (with_reducible refine Below.drew ?_) | (with_reducible refine Below.setCell ?_ ?_ _) | (with_reducible refine Below.alloc ?_ ?_ _) | (with_reducible refine below_after ?_ ?_ (by assumption)) | (show _ ≤ _; first | omega | (simp; done) | (simp; omega))))⟩
    simp [results, Tryz.results62, go_sem, *]

end Go.Proofs.YtpkhcehddfmhpaaGreat
