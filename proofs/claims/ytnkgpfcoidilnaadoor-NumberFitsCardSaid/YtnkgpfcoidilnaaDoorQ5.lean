/-
  The walks of four laws on numbers: what both sides say is the same.
-/
import Derived.Test.YtnkgpfcoidilnaaDoorP5
namespace Go.Proofs.YtnkgpfcoidilnaaDoor
open Go.RowKit

theorem rthou5_is (x n : Int) (s : ByteArray) (w : World) (hs : s.size ≤ 9223372036854775806) (h : Hid (thou5 s.data.toList = (x, n))) :
    Calls Tryd.prog 13 #[.string s] w fun e w' => e = .returned (.tuple #[.int .i64 x, .int .i64 n]) ∧ Below w.heap.size w w' := by
  have := rthou5_any s w hs
  rw [h.out] at this
  exact this
theorem cmp5_is (c n : Int) (a b : ByteArray) (w : World) (ha : a.size ≤ 9223372036854775806) (hb : b.size ≤ 9223372036854775806) (h : Hid (cmp5 a.data.toList b.data.toList = (c, n))) :
    Calls Tryd.prog 18 #[.string a, .string b] w fun e w' => e = .returned (.tuple #[.int .i64 c, .int .i64 n]) ∧ Below w.heap.size w w' := by
  have := cmp5_any a b w ha hb
  rw [h.out] at this
  exact this
theorem rbet5_is (a b : ByteArray) (r : List UInt8) (c : Int) (s : ByteArray) (w : World) (ha : a.size ≤ 9223372036854775806) (hb : b.size ≤ 9223372036854775806) (h : bet5 a.data.toList b.data.toList = (r, c)) (hs : str r = s) :
    Calls Tryd.prog 21 #[.string a, .string b] w fun e w' => e = .returned (.tuple #[.string s, .int .i64 c]) ∧ Below w.heap.size w w' := by
  have := rbet5_any a b w ha hb
  rw [h] at this
  rw [← hs]
  exact this
theorem raft5_is (a : ByteArray) (r : List UInt8) (c : Int) (s : ByteArray) (w : World) (ha : a.size ≤ 9223372036854775806) (h : aft5 a.data.toList = (r, c)) (hs : str r = s) :
    Calls Tryd.prog 23 #[.string a] w fun e w' => e = .returned (.tuple #[.string s, .int .i64 c]) ∧ Below w.heap.size w w' := by
  have := raft5_any a w ha
  rw [h] at this
  rw [← hs]
  exact this

set_option maxHeartbeats 1000000 in
set_option maxRecDepth 100000 in
theorem law_checks (s : ByteArray) (w : World) (hp : Pow w) :
    Calls Tryd.prog 3 #[.string s] w fun e w' => e = .returned (.bool true) ∧ Below w.heap.size w w' := by
  have HP := Lib.hid hp
  clear hp
  by_cases hs : s.size ≤ 400
  · have hs1 : ¬ (400 : Int) < (s.size : Int) := by omega
    have hz : s.size ≤ 9223372036854775806 := by omega
    obtain ⟨x, n, hx⟩ : ∃ x n, thou5 s.data.toList = (x, n) := ⟨_, _, rfl⟩
    have C1 := Lib.hid (fun W => thou5_is x n s W hz hx)
    have C2 := Lib.hid (fun W => rthou5_is x n s W hz hx)
    obtain ⟨k, hk⟩ : ∃ k, chk5 s.data.toList = k := ⟨_, rfl⟩
    have C3 := Lib.hid (fun W => check5_is k s W hz hk)
    have C4 := Lib.hid (fun W => rcheck5_is k s W hz hk)
    clear hs hz hx hk
    go_enter Tryd.func3, Tryd.ntmps3
    go_wp2_with fail
    refine (C1.out _).mono ?_
    rintro e w1 ⟨rfl, hb1⟩
    go_wp2_with fail
    refine (C2.out _).mono ?_
    rintro e w2 ⟨rfl, hb2⟩
    have B2 := below_run hb1 hb2
    go_wp2_with fail
    refine (awake5_any _ (HP.out.run B2)).mono ?_
    rintro e w3 ⟨rfl, hb3⟩
    go_wp2_with fail
    refine (C3.out _).mono ?_
    rintro e w4 ⟨rfl, hb4⟩
    go_wp2_with fail
    refine (C4.out _).mono ?_
    rintro e w5 ⟨rfl, hb5⟩
    go_wp2
    go_ret
    exact ⟨rfl, below_run (below_run (below_run B2 hb3) hb4) hb5⟩
  · have hs1 : (400 : Int) < (s.size : Int) := by omega
    clear hs
    go_enter Tryd.func3, Tryd.ntmps3
    go_wp2_with fail
    refine (awake5_any _ HP.out).mono ?_
    rintro e w1 ⟨rfl, hb1⟩
    go_wp2
    go_ret
    exact ⟨rfl, hb1⟩

set_option maxHeartbeats 1000000 in
set_option maxRecDepth 100000 in
theorem law_names5 (n : Int) (w : World) (hp : Pow w) :
    Calls Tryd.prog 4 #[.int .i64 n] w fun e w' => e = .returned (.bool true) ∧ Below w.heap.size w w' := by
  have HP := Lib.hid hp
  clear hp
  obtain ⟨r, c, hr⟩ : ∃ r c, of5 n = (r, c) := ⟨_, _, rfl⟩
  have C1 := Lib.hid (fun W h => of5_is n c r W h hr)
  have C2 := Lib.hid (fun W => rof5_is n c r W hr)
  clear hr
  go_enter Tryd.func4, Tryd.ntmps4
  go_wp2_with fail
  refine (C1.out _ HP.out).mono ?_
  rintro e w1 ⟨rfl, hb1⟩
  go_wp2_with fail
  refine (C2.out _).mono ?_
  rintro e w2 ⟨rfl, hb2⟩
  have B2 := below_run hb1 hb2
  go_wp2_with fail
  refine (awake5_any _ (HP.out.run B2)).mono ?_
  rintro e w3 ⟨rfl, hb3⟩
  go_wp2
  go_ret
  exact ⟨by simp, below_run B2 hb3⟩

set_option maxHeartbeats 1000000 in
set_option maxRecDepth 100000 in
theorem law_orders (a b : ByteArray) (w : World) (hp : Pow w) :
    Calls Tryd.prog 5 #[.string a, .string b] w fun e w' => e = .returned (.bool true) ∧ Below w.heap.size w w' := by
  have HP := Lib.hid hp
  clear hp
  by_cases hs : a.size ≤ 400 ∧ b.size ≤ 400
  · have hs1 : ¬ (400 : Int) < (a.size : Int) := by omega
    have hs2 : ¬ (400 : Int) < (b.size : Int) := by omega
    obtain ⟨x, n, hx⟩ : ∃ x n, cmp5 a.data.toList b.data.toList = (x, n) := ⟨_, _, rfl⟩
    have C1 := Lib.hid (fun W => cmp5_is x n a b W (by omega) (by omega) hx)
    have C2 := Lib.hid (fun W => rcmp5_is x n a b W (by omega) (by omega) hx)
    clear hs hx
    go_enter Tryd.func5, Tryd.ntmps5
    go_wp2_with fail
    refine (C1.out _).mono ?_
    rintro e w1 ⟨rfl, hb1⟩
    go_wp2_with fail
    refine (C2.out _).mono ?_
    rintro e w2 ⟨rfl, hb2⟩
    have B2 := below_run hb1 hb2
    go_wp2_with fail
    refine (awake5_any _ (HP.out.run B2)).mono ?_
    rintro e w3 ⟨rfl, hb3⟩
    go_wp2
    go_ret
    exact ⟨rfl, below_run B2 hb3⟩
  · by_cases ha : a.size ≤ 400
    · have hs1 : ¬ (400 : Int) < (a.size : Int) := by omega
      have hs2 : (400 : Int) < (b.size : Int) := by omega
      clear hs ha
      go_enter Tryd.func5, Tryd.ntmps5
      go_wp2_with fail
      refine (awake5_any _ HP.out).mono ?_
      rintro e w1 ⟨rfl, hb1⟩
      go_wp2
      go_ret
      exact ⟨rfl, hb1⟩
    · have hs1 : (400 : Int) < (a.size : Int) := by omega
      clear hs ha
      go_enter Tryd.func5, Tryd.ntmps5
      go_wp2_with fail
      refine (awake5_any _ HP.out).mono ?_
      rintro e w1 ⟨rfl, hb1⟩
      go_wp2
      go_ret
      exact ⟨rfl, hb1⟩

set_option maxHeartbeats 1000000 in
set_option maxRecDepth 100000 in
theorem law_between (a b : ByteArray) (w : World) (hp : Pow w) :
    Calls Tryd.prog 6 #[.string a, .string b] w fun e w' => e = .returned (.bool true) ∧ Below w.heap.size w w' := by
  have HP := Lib.hid hp
  clear hp
  by_cases hs : a.size ≤ 400 ∧ b.size ≤ 400
  · have hs1 : ¬ (400 : Int) < (a.size : Int) := by omega
    have hs2 : ¬ (400 : Int) < (b.size : Int) := by omega
    obtain ⟨r, n, hx⟩ : ∃ r n, bet5 a.data.toList b.data.toList = (r, n) := ⟨_, _, rfl⟩
    obtain ⟨r', n', hx'⟩ : ∃ r n, aft5 a.data.toList = (r, n) := ⟨_, _, rfl⟩
    obtain ⟨s, hss⟩ : ∃ s, str r = s := ⟨_, rfl⟩
    obtain ⟨s', hss'⟩ : ∃ s, str r' = s := ⟨_, rfl⟩
    have C1 := Lib.hid (fun W h => bet5_is a b r n s W h (by omega) (by omega) hx hss)
    have C2 := Lib.hid (fun W => rbet5_is a b r n s W (by omega) (by omega) hx hss)
    have C3 := Lib.hid (fun W h => aft5_is a r' n' s' W h (by omega) hx' hss')
    have C4 := Lib.hid (fun W => raft5_is a r' n' s' W (by omega) hx' hss')
    clear hs hx hx' hss hss'
    go_enter Tryd.func6, Tryd.ntmps6
    go_wp2_with fail
    refine (C1.out _ HP.out).mono ?_
    rintro e w1 ⟨rfl, hb1⟩
    go_wp2_with fail
    refine (C2.out _).mono ?_
    rintro e w2 ⟨rfl, hb2⟩
    have B2 := below_run hb1 hb2
    go_wp2_with fail
    refine (C3.out _ (HP.out.run B2)).mono ?_
    rintro e w3 ⟨rfl, hb3⟩
    go_wp2_with fail
    refine (C4.out _).mono ?_
    rintro e w4 ⟨rfl, hb4⟩
    have B4 := below_run (below_run B2 hb3) hb4
    go_wp2_with fail
    refine (awake5_any _ (HP.out.run B4)).mono ?_
    rintro e w5 ⟨rfl, hb5⟩
    go_wp2
    go_ret
    exact ⟨by simp, below_run B4 hb5⟩
  · by_cases ha : a.size ≤ 400
    · have hs1 : ¬ (400 : Int) < (a.size : Int) := by omega
      have hs2 : (400 : Int) < (b.size : Int) := by omega
      clear hs ha
      go_enter Tryd.func6, Tryd.ntmps6
      go_wp2_with fail
      refine (awake5_any _ HP.out).mono ?_
      rintro e w1 ⟨rfl, hb1⟩
      go_wp2
      go_ret
      exact ⟨rfl, hb1⟩
    · have hs1 : (400 : Int) < (a.size : Int) := by omega
      clear hs ha
      go_enter Tryd.func6, Tryd.ntmps6
      go_wp2_with fail
      refine (awake5_any _ HP.out).mono ?_
      rintro e w1 ⟨rfl, hb1⟩
      go_wp2
      go_ret
      exact ⟨rfl, hb1⟩
end Go.Proofs.YtnkgpfcoidilnaaDoor
