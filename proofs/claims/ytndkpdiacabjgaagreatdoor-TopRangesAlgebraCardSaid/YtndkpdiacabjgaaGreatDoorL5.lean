/-
  Two numbers compared, and the number behind one: both sides.
-/
import Derived.Test.YtndkpdiacabjgaaGreatDoorK5
namespace Go.Proofs.YtndkpdiacabjgaaGreatDoor
open Go.RowKit

def vals5 (a b : List UInt8) : Int × Int × Int :=
  if chk5 a = 0 then (if chk5 b = 0 then (val5 a, val5 b, 0) else (0, 0, chk5 b)) else (0, 0, chk5 a)

theorem thou5_is (x n : Int) (s : ByteArray) (w : World) (hs : s.size ≤ 9223372036854775806) (h : Hid (thou5 s.data.toList = (x, n))) :
    Calls Tryz.prog 10 #[.string s] w fun e w' => e = .returned (.tuple #[.int .i64 x, .int .i64 n]) ∧ Below w.heap.size w w' := by
  have := thou5_any s w hs
  rw [h.out] at this
  exact this
theorem thou_bad {l : List UInt8} {n : Int} (h : chk5 l = n) (hn : n ≠ 0) : thou5 l = (0, n) := by rw [thou5, if_neg (by rw [h]; exact hn), h]
theorem thou_good {l : List UInt8} (h : chk5 l = 0) : thou5 l = ((val5 l : Int), 0) := by rw [thou5, if_pos h]

set_option maxHeartbeats 1000000 in
theorem values5_any (a b : ByteArray) (w : World) (ha : a.size ≤ 9223372036854775806) (hb : b.size ≤ 9223372036854775806) :
    Calls Tryz.prog 27 #[.string a, .string b] w fun e w' => e = .returned (.tuple #[.int .i64 (vals5 a.data.toList b.data.toList).1, .int .i64 (vals5 a.data.toList b.data.toList).2.1, .int .i64 (vals5 a.data.toList b.data.toList).2.2]) ∧ Below w.heap.size w w' := by
  obtain ⟨n, hn⟩ : ∃ n, chk5 a.data.toList = n := ⟨_, rfl⟩
  obtain ⟨m, hm⟩ : ∃ m, chk5 b.data.toList = m := ⟨_, rfl⟩
  have HA := Lib.hid ha
  have HB := Lib.hid hb
  clear ha hb
  by_cases h0 : n = 0
  · subst h0
    have T1 := Lib.hid (thou_good hn)
    by_cases m0 : m = 0
    · subst m0
      have T2 := Lib.hid (thou_good hm)
      rw [vals5, if_pos hn, if_pos hm]
      clear hn hm
      obtain ⟨x, hx⟩ : ∃ x : Int, (val5 a.data.toList : Int) = x := ⟨_, rfl⟩
      obtain ⟨y, hy⟩ : ∃ y : Int, (val5 b.data.toList : Int) = y := ⟨_, rfl⟩
      rw [hx] at T1 ⊢
      rw [hy] at T2 ⊢
      clear hx hy
      go_enter Tryz.func27, Tryz.ntmps27
      go_wp2_with fail
      refine (thou5_is x 0 a _ HA.out T1).mono ?_
      rintro e w1 ⟨rfl, hb1⟩
      go_wp2_with fail
      refine (thou5_is y 0 b _ HB.out T2).mono ?_
      rintro e w2 ⟨rfl, hb2⟩
      go_wp2
      go_ret3
      exact ⟨rfl, below_run hb1 hb2⟩
    · have T2 := Lib.hid (thou_bad hm m0)
      have e9 : (m != 0) = true := by simpa using m0
      rw [vals5, if_pos hn, if_neg (by rw [hm]; exact m0), hm]
      clear hn hm m0
      obtain ⟨x, hx⟩ : ∃ x : Int, (val5 a.data.toList : Int) = x := ⟨_, rfl⟩
      rw [hx] at T1
      clear hx
      go_enter Tryz.func27, Tryz.ntmps27
      go_wp2_with fail
      refine (thou5_is x 0 a _ HA.out T1).mono ?_
      rintro e w1 ⟨rfl, hb1⟩
      go_wp2_with fail
      refine (thou5_is 0 m b _ HB.out T2).mono ?_
      rintro e w2 ⟨rfl, hb2⟩
      go_wp2
      go_ret3
      exact ⟨rfl, below_run hb1 hb2⟩
  · have T1 := Lib.hid (thou_bad hn h0)
    have e9 : (n != 0) = true := by simpa using h0
    rw [vals5, if_neg (by rw [hn]; exact h0), hn]
    clear hn hm h0
    go_enter Tryz.func27, Tryz.ntmps27
    go_wp2_with fail
    refine (thou5_is 0 n a _ HA.out T1).mono ?_
    rintro e w1 ⟨rfl, hb1⟩
    go_wp2
    go_ret3
    exact ⟨rfl, hb1⟩

theorem values5_is (x y n : Int) (a b : ByteArray) (w : World) (ha : a.size ≤ 9223372036854775806) (hb : b.size ≤ 9223372036854775806) (h : Hid (vals5 a.data.toList b.data.toList = (x, y, n))) :
    Calls Tryz.prog 27 #[.string a, .string b] w fun e w' => e = .returned (.tuple #[.int .i64 x, .int .i64 y, .int .i64 n]) ∧ Below w.heap.size w w' := by
  have := values5_any a b w ha hb
  rw [h.out] at this
  exact this

theorem vals_ab {a b : List UInt8} (h : chk5 a = 0) (h2 : chk5 b = 0) : vals5 a b = ((val5 a : Int), (val5 b : Int), 0) := by rw [vals5, if_pos h, if_pos h2]
theorem vals_b {a b : List UInt8} {n : Int} (h : chk5 a = 0) (h2 : chk5 b = n) (hn : n ≠ 0) : vals5 a b = (0, 0, n) := by rw [vals5, if_pos h, if_neg (by rw [h2]; exact hn), h2]
theorem vals_a {a b : List UInt8} {n : Int} (h : chk5 a = n) (hn : n ≠ 0) : vals5 a b = (0, 0, n) := by rw [vals5, if_neg (by rw [h]; exact hn), h]
theorem cmp_ab {a b : List UInt8} (h : chk5 a = 0) (h2 : chk5 b = 0) : cmp5 a b = (ord5 (val5 a) (val5 b), 0) := by rw [cmp5, if_pos h, if_pos h2]
theorem cmp_b {a b : List UInt8} {n : Int} (h : chk5 a = 0) (h2 : chk5 b = n) (hn : n ≠ 0) : cmp5 a b = (0, n) := by rw [cmp5, if_pos h, if_neg (by rw [h2]; exact hn), h2]
theorem cmp_a {a b : List UInt8} {n : Int} (h : chk5 a = n) (hn : n ≠ 0) : cmp5 a b = (0, n) := by rw [cmp5, if_neg (by rw [h]; exact hn), h]

/-- What the two numbers and the error make of the order. -/
theorem cmp_vals (a b : List UInt8) : cmp5 a b = (ord5 (vals5 a b).1 (vals5 a b).2.1, (vals5 a b).2.2) := by
  unfold cmp5 vals5
  repeat' split
  all_goals first | rfl | simp [ord5]

set_option maxHeartbeats 1000000 in
theorem rorder_any (a b : ByteArray) (w : World) (ha : a.size ≤ 9223372036854775806) (hb : b.size ≤ 9223372036854775806) (h1 : chk5 a.data.toList = 0) (h2 : chk5 b.data.toList = 0) :
    Calls Tryz.prog 7 #[.string a, .string b] w fun e w' => e = .returned (.int .i64 (ord5 (val5 a.data.toList) (val5 b.data.toList))) ∧ Below w.heap.size w w' := by
  have C1 := Lib.hid (fun W => rvalue5_any a W ha h1)
  have C2 := Lib.hid (fun W => rvalue5_any b W hb h2)
  obtain ⟨x, hx⟩ : ∃ x : Int, (val5 a.data.toList : Int) = x := ⟨_, rfl⟩
  obtain ⟨y, hy⟩ : ∃ y : Int, (val5 b.data.toList : Int) = y := ⟨_, rfl⟩
  rw [hx] at C1 ⊢
  rw [hy] at C2 ⊢
  clear ha hb h1 h2 hx hy
  by_cases h1 : x < y
  · have e1 : ord5 x y = -1 := by rw [ord5, if_pos h1]
    rw [e1]
    go_enter Tryz.func7, Tryz.ntmps7
    go_wp2_with fail
    refine (C1.out _).mono ?_
    rintro e w1 ⟨rfl, hb1⟩
    go_wp2_with fail
    refine (C2.out _).mono ?_
    rintro e w2 ⟨rfl, hb2⟩
    go_wp2
    go_ret
    exact ⟨rfl, below_run hb1 hb2⟩
  · by_cases h2 : y < x
    · have e1 : ord5 x y = 1 := by rw [ord5, if_neg h1, if_pos h2]
      rw [e1]
      go_enter Tryz.func7, Tryz.ntmps7
      go_wp2_with fail
      refine (C1.out _).mono ?_
      rintro e w1 ⟨rfl, hb1⟩
      go_wp2_with fail
      refine (C2.out _).mono ?_
      rintro e w2 ⟨rfl, hb2⟩
      go_wp2
      go_ret
      exact ⟨rfl, below_run hb1 hb2⟩
    · have e1 : ord5 x y = 0 := by rw [ord5, if_neg h1, if_neg h2]
      rw [e1]
      go_enter Tryz.func7, Tryz.ntmps7
      go_wp2_with fail
      refine (C1.out _).mono ?_
      rintro e w1 ⟨rfl, hb1⟩
      go_wp2_with fail
      refine (C2.out _).mono ?_
      rintro e w2 ⟨rfl, hb2⟩
      go_wp2
      go_ret
      exact ⟨rfl, below_run hb1 hb2⟩

/-! ### The number behind one -/
theorem next_is (x u : Int) : x - x % u + u = nextM x u := by
  unfold nextM
  have := Int.mul_ediv_add_emod x u
  rw [Int.add_mul, Int.one_mul, Int.mul_comm (x / u) u]
  omega

theorem after_in {a : List UInt8} (h : chk5 a = 0) : aft5 a = of5 (nextM (val5 a) 1000) := by rw [aft5, if_pos h]
theorem after_out {a : List UInt8} {n : Int} (h : chk5 a = n) (hn : n ≠ 0) : aft5 a = ([], n) := by rw [aft5, if_neg (by rw [h]; exact hn), h]

theorem of5_is (v c : Int) (r : List UInt8) (w : World) (hp : Pow w) (h : Hid (of5 v = (r, c))) : Calls Tryz.prog 28 #[.int .i64 v] w fun e w' => e = .returned (.tuple #[.string (str r), .int .i64 c]) ∧ Below w.heap.size w w' := by
  have := of5_any v w hp
  rw [h.out] at this
  exact this
end Go.Proofs.YtndkpdiacabjgaaGreatDoor
