/-
  The contracts of the two checks of devices.
-/
import Derived.Test.YtiemdccjphdbmaaGreatLabel
import Derived.Test.YtiemdccjphdbmaaGreatIds
namespace Go.Proofs.YtiemdccjphdbmaaGreat
open Go.RowKit

/-- The body of a device is bad. -/
def bodyBad (id ft ad : Int) : Bool := decide (isId id = false ∨ ft < 1 ∨ 512 < ft ∨ fitsB ad ft = false)

/-- The number of the error of a device. -/
def chkD (d : Dev) : Int :=
  if bodyBad d.id d.ft d.ad then 2 else if lblE d.lb ≠ 0 then lblE d.lb else if d.hr < 0 ∨ 4294967295 < d.hr then 2 else 0

set_option maxHeartbeats 1000000 in
set_option maxRecDepth 100000 in
theorem dchk_any (id ft ad hr : Int) (lb : ByteArray) (mu idf : Bool) (w : World) :
    Calls Tryz.prog 78 #[.agg #[.int .u64 id, .int .i64 ft, .int .i64 ad, .string lb, .int .i64 hr, .bool mu, .bool idf]] w
      fun e w' => e = .returned (.int .i64 (chkD ⟨id, ft, ad, lb, hr, mu, idf⟩)) ∧ Below w.heap.size w w' := by
  go_enter Tryz.func78, Tryz.ntmps78
  go_upto_region 1 with fail
  go_cut [23] (fun s7 wx => s7 = .bool (bodyBad id ft ad) ∧ wx = w.alloc (.cells #[.int .u64 id, .int .i64 ft, .int .i64 ad, .string lb, .int .i64 hr, .bool mu, .bool idf] 66))
  case first =>
    go_wp2_with (first | (go_at_call 119; refine (named_any _ _).mono ?_; rintro e w' ⟨rfl, rfl⟩) | (go_at_call 120; refine (fits_any _ ft _ _ (by omega) (by omega) (by simp [go_sem])).mono ?_; rintro e w' ⟨rfl, rfl⟩))
    all_goals go_meet
    all_goals exact ⟨by congr 1; grind [bodyBad], rfl⟩
  case rest =>
    obtain ⟨rfl, rfl⟩ := hcut
    go_wp2_with (first | (go_at_call 121; refine (label_any _ _).mono ?_; rintro e w1 ⟨rfl, hb⟩; obtain ⟨hc, hf⟩ := bcell hb))
    all_goals go_ret
    all_goals refine ⟨ret_int ?_, ?_⟩
    all_goals first
      | exact below_after1 hb
      | exact (Below.refl _ _).alloc (Nat.le_refl _) _
      | skip
    all_goals try clear hb hc hf
    all_goals grind [chkD]

set_option maxHeartbeats 1000000 in
set_option maxRecDepth 100000 in
theorem refdchk_any (id ft ad hr : Int) (lb : ByteArray) (mu idf : Bool) (w : World) (hl : lb.size ≤ 9223372036854775807) :
    Calls Tryz.prog 60 #[.agg #[.int .u64 id, .int .i64 ft, .int .i64 ad, .string lb, .int .i64 hr, .bool mu, .bool idf]] w
      fun e w' => e = .returned (.int .i64 (chkD ⟨id, ft, ad, lb, hr, mu, idf⟩)) ∧ Below w.heap.size w w' := by
  go_enter Tryz.func60, Tryz.ntmps60
  go_wp2_with (first | (go_at_call 26; refine (Is_any _ _).mono ?_; rintro e w' ⟨rfl, rfl⟩) | (go_at_call 98; refine (Fits_any _ _ _ (by omega) (by omega)).mono ?_; rintro e w' ⟨rfl, rfl⟩) | (go_at_call 99; refine (Label_any _ _ hl).mono ?_; rintro e w1 ⟨rfl, rfl⟩))
  all_goals go_ret
  all_goals refine ⟨ret_int ?_, (Below.refl _ _).alloc (Nat.le_refl _) _⟩
  all_goals grind [chkD, bodyBad]

end Go.Proofs.YtiemdccjphdbmaaGreat
