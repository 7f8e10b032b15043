/-
  Right moves: what both sides say.
-/
import Derived.Test.YtjeigphhepngmaaGreatDoorYh
namespace Go.Proofs.YtjeigphhepngmaaGreatDoor
open Go.RowKit

set_option maxHeartbeats 400000 in
theorem cparam_any (ch at_ : Int) (w : World) :
    Calls Tryz.prog 291 #[.agg #[.int .i64 ch, .int .i64 at_]] w fun e w' => e = .returned (.int .i64 (parE ch at_)) ∧ Below w.heap.size w w' := by
  go_enter Tryz.func291, Tryz.ntmps291
  go_wp2
  all_goals go_ret
  all_goals exact ⟨ret_int (by grind [parE]), by (repeat' (first | (with_reducible exact Below.refl _ _) | (with_reducible assumption) | (with_reducible refine below_run ?_ (by assumption)) | (with_reducible refine below_of_upd ?_ (by assumption) ?_) | (with_reducible refine below_drewN ?_ _) | (with_reducible refine Below.drew ?_) | (with_reducible refine below_seven ?_ ?_) | (with_reducible refine below_six ?_ ?_) | (with_reducible refine below_one ?_ ?_) | (with_reducible refine Below.alloc ?_ ?_ _) | (with_reducible refine below_after ?_ ?_ (by assumption)) | (show _ ≤ _; first | omega | (simp; done) | (simp; omega))))⟩
set_option maxHeartbeats 400000 in
theorem rparam_any (ch at_ : Int) (w : World) :
    Calls Tryz.prog 257 #[.agg #[.int .i64 ch, .int .i64 at_]] w fun e w' => e = .returned (.int .i64 (parE ch at_)) ∧ Below w.heap.size w w' := by
  go_enter Tryz.func257, Tryz.ntmps257
  go_wp2
  all_goals go_ret
  all_goals exact ⟨ret_int (by grind [parE]), by (repeat' (first | (with_reducible exact Below.refl _ _) | (with_reducible assumption) | (with_reducible refine below_run ?_ (by assumption)) | (with_reducible refine below_of_upd ?_ (by assumption) ?_) | (with_reducible refine below_drewN ?_ _) | (with_reducible refine Below.drew ?_) | (with_reducible refine below_seven ?_ ?_) | (with_reducible refine below_six ?_ ?_) | (with_reducible refine below_one ?_ ?_) | (with_reducible refine Below.alloc ?_ ?_ _) | (with_reducible refine below_after ?_ ?_ (by assumption)) | (show _ ≤ _; first | omega | (simp; done) | (simp; omega))))⟩

def lev16 (v : Int) : Bool := decide (0 ≤ v ∧ v ≤ 65535)
set_option maxHeartbeats 400000 in
theorem plevel_any (v : Int) (w : World) : Calls Tryz.prog 310 #[.int .i64 v] w fun e w' => e = .returned (.bool (lev16 v)) ∧ w = w' := by
  go_enter Tryz.func310, Tryz.ntmps310
  go_wp2
  all_goals go_ret
  all_goals exact ⟨ret_bool (by grind [lev16]), rfl⟩
set_option maxHeartbeats 400000 in
theorem r15level_any (v : Int) (w : World) : Calls Tryz.prog 282 #[.int .i64 v] w fun e w' => e = .returned (.bool (lev16 v)) ∧ w = w' := by
  go_enter Tryz.func282, Tryz.ntmps282
  go_wp2
  all_goals go_ret
  all_goals exact ⟨ret_bool (by grind [lev16]), rfl⟩

set_option maxHeartbeats 1000000 in
set_option maxRecDepth 100000 in
theorem pvalue_any (pal lev : Int) (w : World) :
    Calls Tryz.prog 292 #[.agg #[.int .i64 pal, .int .i64 lev]] w fun e w' => e = .returned (.int .i64 (valE pal lev)) ∧ Below w.heap.size w w' := by
  obtain ⟨q, hq⟩ : ∃ q, lev16 lev = q := ⟨_, rfl⟩
  have C := fun W => plevel_any lev W
  rw [hq] at C
  have HC := Lib.hid C
  have HQ := Lib.hid hq
  clear C hq
  by_cases h0 : pal = 0
  · subst h0
    cases q with
    | true =>
      go_enter Tryz.func292, Tryz.ntmps292
      go_wp2_with fail
      refine (HC.out _).mono ?_
      rintro e w1 ⟨rfl, rfl⟩
      go_wp2
      all_goals go_ret
      all_goals exact ⟨ret_int (by have := HQ.out; grind [valE, lev16]), by (repeat' (first | (with_reducible exact Below.refl _ _) | (with_reducible assumption) | (with_reducible refine below_run ?_ (by assumption)) | (with_reducible refine below_of_upd ?_ (by assumption) ?_) | (with_reducible refine below_drewN ?_ _) | (with_reducible refine Below.drew ?_) | (with_reducible refine below_seven ?_ ?_) | (with_reducible refine below_six ?_ ?_) | (with_reducible refine below_one ?_ ?_) | (with_reducible refine Below.alloc ?_ ?_ _) | (with_reducible refine below_after ?_ ?_ (by assumption)) | (show _ ≤ _; first | omega | (simp; done) | (simp; omega))))⟩
    | false =>
      go_enter Tryz.func292, Tryz.ntmps292
      go_wp2_with fail
      refine (HC.out _).mono ?_
      rintro e w1 ⟨rfl, rfl⟩
      go_wp2
      all_goals go_ret
      all_goals exact ⟨ret_int (by have := HQ.out; grind [valE, lev16]), by (repeat' (first | (with_reducible exact Below.refl _ _) | (with_reducible assumption) | (with_reducible refine below_run ?_ (by assumption)) | (with_reducible refine below_of_upd ?_ (by assumption) ?_) | (with_reducible refine below_drewN ?_ _) | (with_reducible refine Below.drew ?_) | (with_reducible refine below_seven ?_ ?_) | (with_reducible refine below_six ?_ ?_) | (with_reducible refine below_one ?_ ?_) | (with_reducible refine Below.alloc ?_ ?_ _) | (with_reducible refine below_after ?_ ?_ (by assumption)) | (show _ ≤ _; first | omega | (simp; done) | (simp; omega))))⟩
  · have h1 : (pal == 0) = false := by simpa using h0
    have h2 : (pal != 0) = true := by simpa using h0
    go_enter Tryz.func292, Tryz.ntmps292
    go_wp2
    all_goals go_ret
    all_goals exact ⟨ret_int (by have := HQ.out; grind [valE, lev16]), by (repeat' (first | (with_reducible exact Below.refl _ _) | (with_reducible assumption) | (with_reducible refine below_run ?_ (by assumption)) | (with_reducible refine below_of_upd ?_ (by assumption) ?_) | (with_reducible refine below_drewN ?_ _) | (with_reducible refine Below.drew ?_) | (with_reducible refine below_seven ?_ ?_) | (with_reducible refine below_six ?_ ?_) | (with_reducible refine below_one ?_ ?_) | (with_reducible refine Below.alloc ?_ ?_ _) | (with_reducible refine below_after ?_ ?_ (by assumption)) | (show _ ≤ _; first | omega | (simp; done) | (simp; omega))))⟩
set_option maxHeartbeats 1000000 in
set_option maxRecDepth 100000 in
theorem rvalue_any (pal lev : Int) (w : World) :
    Calls Tryz.prog 258 #[.agg #[.int .i64 pal, .int .i64 lev]] w fun e w' => e = .returned (.int .i64 (valE pal lev)) ∧ Below w.heap.size w w' := by
  obtain ⟨q, hq⟩ : ∃ q, lev16 lev = q := ⟨_, rfl⟩
  have C := fun W => r15level_any lev W
  rw [hq] at C
  have HC := Lib.hid C
  have HQ := Lib.hid hq
  clear C hq
  by_cases h0 : pal = 0
  · subst h0
    cases q with
    | true =>
      go_enter Tryz.func258, Tryz.ntmps258
      go_wp2_with fail
      refine (HC.out _).mono ?_
      rintro e w1 ⟨rfl, rfl⟩
      go_wp2
      all_goals go_ret
      all_goals exact ⟨ret_int (by have := HQ.out; grind [valE, lev16]), by (repeat' (first | (with_reducible exact Below.refl _ _) | (with_reducible assumption) | (with_reducible refine below_run ?_ (by assumption)) | (with_reducible refine below_of_upd ?_ (by assumption) ?_) | (with_reducible refine below_drewN ?_ _) | (with_reducible refine Below.drew ?_) | (with_reducible refine below_seven ?_ ?_) | (with_reducible refine below_six ?_ ?_) | (with_reducible refine below_one ?_ ?_) | (with_reducible refine Below.alloc ?_ ?_ _) | (with_reducible refine below_after ?_ ?_ (by assumption)) | (show _ ≤ _; first | omega | (simp; done) | (simp; omega))))⟩
    | false =>
      go_enter Tryz.func258, Tryz.ntmps258
      go_wp2_with fail
      refine (HC.out _).mono ?_
      rintro e w1 ⟨rfl, rfl⟩
      go_wp2
      all_goals go_ret
      all_goals exact ⟨ret_int (by have := HQ.out; grind [valE, lev16]), by (repeat' (first | (with_reducible exact Below.refl _ _) | (with_reducible assumption) | (with_reducible refine below_run ?_ (by assumption)) | (with_reducible refine below_of_upd ?_ (by assumption) ?_) | (with_reducible refine below_drewN ?_ _) | (with_reducible refine Below.drew ?_) | (with_reducible refine below_seven ?_ ?_) | (with_reducible refine below_six ?_ ?_) | (with_reducible refine below_one ?_ ?_) | (with_reducible refine Below.alloc ?_ ?_ _) | (with_reducible refine below_after ?_ ?_ (by assumption)) | (show _ ≤ _; first | omega | (simp; done) | (simp; omega))))⟩
  · have h1 : (pal == 0) = false := by simpa using h0
    have h2 : (pal != 0) = true := by simpa using h0
    go_enter Tryz.func258, Tryz.ntmps258
    go_wp2
    all_goals go_ret
    all_goals exact ⟨ret_int (by have := HQ.out; grind [valE, lev16]), by (repeat' (first | (with_reducible exact Below.refl _ _) | (with_reducible assumption) | (with_reducible refine below_run ?_ (by assumption)) | (with_reducible refine below_of_upd ?_ (by assumption) ?_) | (with_reducible refine below_drewN ?_ _) | (with_reducible refine Below.drew ?_) | (with_reducible refine below_seven ?_ ?_) | (with_reducible refine below_six ?_ ?_) | (with_reducible refine below_one ?_ ?_) | (with_reducible refine Below.alloc ?_ ?_ _) | (with_reducible refine below_after ?_ ?_ (by assumption)) | (show _ ≤ _; first | omega | (simp; done) | (simp; omega))))⟩

theorem parE_zero {c a : Int} (h : parE c a = 0) : 1 ≤ c ∧ c ≤ 999 ∧ 0 ≤ a ∧ a ≤ 14 := by
  unfold parE at h
  split at h
  · cases h
  · omega
set_option maxHeartbeats 1000000 in
set_option maxRecDepth 100000 in
theorem ccompare_any (c1 a1 c2 a2 : Int) (w : World) (h1 : parE c1 a1 = 0) (h2 : parE c2 a2 = 0) :
    Calls Tryz.prog 293 #[.agg #[.int .i64 c1, .int .i64 a1], .agg #[.int .i64 c2, .int .i64 a2]] w fun e w' => (∃ n, e = .returned (.int .i64 n) ∧ Hid (decide (0 ≤ n) = !befP c1 a1 c2 a2)) ∧ Below w.heap.size w w' := by
  obtain ⟨p1, p2, p3, p4⟩ := parE_zero h1
  obtain ⟨q1, q2, q3, q4⟩ := parE_zero h2
  clear h1 h2
  by_cases he : c1 = c2
  · subst he
    have e1 : (c1 != c1) = false := by simp
    go_enter Tryz.func293, Tryz.ntmps293
    go_wp2
    go_ret
    exact ⟨⟨_, rfl, Lib.hid (by rw [Bool.eq_iff_iff]; simp [befP] <;> omega)⟩, by (repeat' (first | (with_reducible exact Below.refl _ _) | (with_reducible assumption) | (with_reducible refine below_run ?_ (by assumption)) | (with_reducible refine below_of_upd ?_ (by assumption) ?_) | (with_reducible refine below_drewN ?_ _) | (with_reducible refine Below.drew ?_) | (with_reducible refine below_seven ?_ ?_) | (with_reducible refine below_six ?_ ?_) | (with_reducible refine below_one ?_ ?_) | (with_reducible refine Below.alloc ?_ ?_ _) | (with_reducible refine below_after ?_ ?_ (by assumption)) | (show _ ≤ _; first | omega | (simp; done) | (simp; omega))))⟩
  · have e1 : (c1 != c2) = true := by simpa using he
    go_enter Tryz.func293, Tryz.ntmps293
    go_wp2
    go_ret
    exact ⟨⟨_, rfl, Lib.hid (by rw [Bool.eq_iff_iff]; simp [befP] <;> omega)⟩, by (repeat' (first | (with_reducible exact Below.refl _ _) | (with_reducible assumption) | (with_reducible refine below_run ?_ (by assumption)) | (with_reducible refine below_of_upd ?_ (by assumption) ?_) | (with_reducible refine below_drewN ?_ _) | (with_reducible refine Below.drew ?_) | (with_reducible refine below_seven ?_ ?_) | (with_reducible refine below_six ?_ ?_) | (with_reducible refine below_one ?_ ?_) | (with_reducible refine Below.alloc ?_ ?_ _) | (with_reducible refine below_after ?_ ?_ (by assumption)) | (show _ ≤ _; first | omega | (simp; done) | (simp; omega))))⟩
set_option maxHeartbeats 1000000 in
set_option maxRecDepth 100000 in
theorem rbefore_any (c1 a1 c2 a2 : Int) (w : World) :
    Calls Tryz.prog 259 #[.agg #[.int .i64 c1, .int .i64 a1], .agg #[.int .i64 c2, .int .i64 a2]] w fun e w' => e = .returned (.bool (befP c1 a1 c2 a2)) ∧ Below w.heap.size w w' := by
  go_enter Tryz.func259, Tryz.ntmps259
  go_wp2
  all_goals go_ret
  all_goals exact ⟨ret_bool (by grind [befP]), by (repeat' (first | (with_reducible exact Below.refl _ _) | (with_reducible assumption) | (with_reducible refine below_run ?_ (by assumption)) | (with_reducible refine below_of_upd ?_ (by assumption) ?_) | (with_reducible refine below_drewN ?_ _) | (with_reducible refine Below.drew ?_) | (with_reducible refine below_seven ?_ ?_) | (with_reducible refine below_six ?_ ?_) | (with_reducible refine below_one ?_ ?_) | (with_reducible refine Below.alloc ?_ ?_ _) | (with_reducible refine below_after ?_ ?_ (by assumption)) | (show _ ≤ _; first | omega | (simp; done) | (simp; omega))))⟩
end Go.Proofs.YtjeigphhepngmaaGreatDoor
