/-
  What is done with numbers: both sides.
-/
import Derived.Test.YtndkpdiacabjgaaGreatDoorJ5
namespace Go.Proofs.YtndkpdiacabjgaaGreatDoor
open Go.RowKit

/-! ### Checks and values with their results as variables -/
theorem check5_is (n : Int) (s : ByteArray) (w : World) (hs : s.size ≤ 9223372036854775806) (h : Hid (chk5 s.data.toList = n)) : Calls Tryz.prog 29 #[.string s] w fun e w' => e = .returned (.int .i64 n) ∧ Below w.heap.size w w' := by
  have := check5_any s w hs
  rw [h.out] at this
  exact this
theorem rcheck5_is (n : Int) (s : ByteArray) (w : World) (hs : s.size ≤ 9223372036854775806) (h : Hid (chk5 s.data.toList = n)) : Calls Tryz.prog 6 #[.string s] w fun e w' => e = .returned (.int .i64 n) ∧ Below w.heap.size w w' := by
  have := rcheck5_any s w hs
  rw [h.out] at this
  exact this

set_option maxHeartbeats 1000000 in
theorem thou5_any (s : ByteArray) (w : World) (hs : s.size ≤ 9223372036854775806) :
    Calls Tryz.prog 10 #[.string s] w fun e w' => e = .returned (.tuple #[.int .i64 (thou5 s.data.toList).1, .int .i64 (thou5 s.data.toList).2]) ∧ Below w.heap.size w w' := by
  obtain ⟨n, hn⟩ : ∃ n, chk5 s.data.toList = n := ⟨_, rfl⟩
  have HS := Lib.hid hs
  clear hs
  by_cases h0 : n = 0
  · subst h0
    have HN := Lib.hid hn
    rw [thou5, if_pos hn]
    clear hn
    go_enter Tryz.func10, Tryz.ntmps10
    go_wp2_with fail
    refine (check5_is 0 s _ HS.out HN).mono ?_
    rintro e w1 ⟨rfl, hb⟩
    go_wp2_with fail
    refine (value5_any s _ HS.out HN.out).mono ?_
    rintro e w2 ⟨rfl, hb2⟩
    go_wp2
    go_ret2
    exact ⟨rfl, below_run hb hb2⟩
  · have HN := Lib.hid hn
    have e9 : (n != 0) = true := by simpa using h0
    rw [thou5, if_neg (by rw [hn]; exact h0), hn]
    clear hn h0
    go_enter Tryz.func10, Tryz.ntmps10
    go_wp2_with fail
    refine (check5_is n s _ HS.out HN).mono ?_
    rintro e w1 ⟨rfl, hb⟩
    go_wp2
    go_ret2
    exact ⟨rfl, hb⟩

/-- Results that are a text and the number of an error. -/
def strE (r : List UInt8 × Int) : Value := .tuple #[.string (str r.1), .int .i64 r.2]

theorem of5_in {n : Int} (h1 : 1 ≤ n) (h2 : n ≤ 9999999) : of5 n = (named n.toNat, 0) := by rw [of5, if_pos ⟨h1, h2⟩]
theorem of5_out {n : Int} (h : n < 1 ∨ 9999999 < n) : of5 n = ([], 2) := by rw [of5, if_neg]; omega

set_option maxHeartbeats 1000000 in
theorem of5_any (n : Int) (w : World) (hp : Pow w) :
    Calls Tryz.prog 28 #[.int .i64 n] w fun e w' => e = .returned (strE (of5 n)) ∧ Below w.heap.size w w' := by
  by_cases h : 1 ≤ n ∧ n ≤ 9999999
  · rw [of5_in h.1 h.2]
    obtain ⟨m, rfl⟩ : ∃ m : Nat, n = m := ⟨n.toNat, by omega⟩
    exact of5_good m w (by omega) (by omega) hp
  · rw [of5_out (by omega)]
    by_cases h1 : n < 1
    · clear hp h
      go_enter Tryz.func28, Tryz.ntmps28
      go_wp2
      go_ret2
      exact ⟨rfl, by (repeat' (first | (with_reducible exact Below.refl _ _) | (with_reducible assumption) | (with_reducible refine below_drewN ?_ _) | (with_reducible refine Below.drew ?_) | (with_reducible refine Below.setCell ?_ ?_ _) | (with_reducible refine Below.alloc ?_ ?_ _) | (with_reducible refine below_after ?_ ?_ (by assumption)) | (show _ ≤ _; first | omega | (simp; done) | (simp; omega))))⟩
    · have h2 : 9999999 < n := by omega
      clear hp h
      go_enter Tryz.func28, Tryz.ntmps28
      go_wp2
      go_ret2
      exact ⟨rfl, by (repeat' (first | (with_reducible exact Below.refl _ _) | (with_reducible assumption) | (with_reducible refine below_drewN ?_ _) | (with_reducible refine Below.drew ?_) | (with_reducible refine Below.setCell ?_ ?_ _) | (with_reducible refine Below.alloc ?_ ?_ _) | (with_reducible refine below_after ?_ ?_ (by assumption)) | (show _ ≤ _; first | omega | (simp; done) | (simp; omega))))⟩

end Go.Proofs.YtndkpdiacabjgaaGreatDoor
