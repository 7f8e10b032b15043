/-
  The reference's check of numbers.
-/
import Derived.Test.YtndkpdiacabjgaaGreatDoorE5
namespace Go.Proofs.YtndkpdiacabjgaaGreatDoor
open Go.RowKit

theorem last0 (y : ByteArray) (n : Nat) (h : y.size = n + 1) : (y.data.toList.getLast? == some 48) = (((y[n]'(by omega)).toNat : Int) == 48) := by
  have h0 : y.data.toList.getLast? = some (y[n]'(by omega)) := by
    have hl : y.data.toList.length = n + 1 := by simpa using h
    rw [List.getLast?_eq_getElem?, hl, List.getElem?_eq_getElem (by omega)]
    rfl
  rw [h0]
  by_cases h1 : y[n]'(by omega) = 48
  · rw [h1]; rfl
  · have h2 : ¬ ((y[n]'(by omega)).toNat : Int) = 48 := fun e => h1 (UInt8.toNat_inj.1 (by simpa using Int.ofNat.inj e))
    rw [beq_eq_false_iff_ne.2 h2]
    simpa using h1

theorem digs_pos {x : ByteArray} (h : digs x.data.toList = true) : 0 < x.size := by
  have : x.data.toList.length = x.size := by simp
  cases hh : x.data.toList with
  | nil => rw [hh] at h; simp [digs] at h
  | cons a t => rw [hh] at this; simp at this; omega

set_option maxHeartbeats 4000000 in
set_option maxRecDepth 100000 in
theorem rcheck5_any (s : ByteArray) (w : World) (hs : s.size ≤ 9223372036854775806) :
    Calls Tryz.prog 6 #[.string s] w fun e w' => e = .returned (.int .i64 (chk5 s.data.toList)) ∧ Below w.heap.size w w' := by
  have C := fun W => split_any s W (by omega)
  have hlr : (restOf s.data.toList).length ≤ s.size := by have := (part_len s.data.toList).2; simpa using this
  have hlw : (wholeOf s.data.toList).length ≤ s.size := by have := (part_len s.data.toList).1; simpa using this
  obtain ⟨x, hx⟩ : ∃ x, str (wholeOf s.data.toList) = x := ⟨_, rfl⟩
  obtain ⟨y, hy⟩ : ∃ y, str (restOf s.data.toList) = y := ⟨_, rfl⟩
  obtain ⟨p, hp⟩ : ∃ p, hasPt s.data.toList = p := ⟨_, rfl⟩
  have hxl : x.data.toList = wholeOf s.data.toList := by rw [← hx, str_data]
  have hyl : y.data.toList = restOf s.data.toList := by rw [← hy, str_data]
  have hxs : x.size = (wholeOf s.data.toList).length := by rw [← hx, str_len]
  have hys : y.size = (restOf s.data.toList).length := by rw [← hy, str_len]
  have hys2 : y.size ≤ 9223372036854775806 := by omega
  have hxs2 : x.size ≤ 9223372036854775806 := by omega
  have hform : formE (wholeOf s.data.toList) (restOf s.data.toList) (hasPt s.data.toList) = (digs x.data.toList && ((!p || (digs y.data.toList && y.data.toList.getLast? != some 48)) && (x.data.toList.length == 1 || x.data.toList.head? != some 48))) := by
    rw [hxl, hyl, hp]; rfl
  have D1 := fun W => rdigits_any x W (by omega)
  have D2 := fun W => rdigits_any y W (by omega)
  rw [hx, hy, hp] at C
  have hlen : x.data.toList.length = x.size := by simp
  rw [hlen] at hform
  obtain ⟨z, hz⟩ : ∃ z, (s.toList == [48]) = z := ⟨_, rfl⟩
  have hz2 : (s.data.toList = [48]) ↔ z = true := by rw [← hz, Lib.toList_data]; simp
  have HL := Lib.hid (And.intro hxs (And.intro hys hz2))
  have hx0 : digs x.data.toList = true → 0 < x.size := digs_pos
  have hy0 : digs y.data.toList = true → 0 < y.size := digs_pos
  clear hx hy hp hxl hyl hxs hys hz2 hs hlr hlw hlen
  obtain ⟨q1, hq1⟩ : ∃ q, digs x.data.toList = q := ⟨_, rfl⟩
  obtain ⟨q2, hq2⟩ : ∃ q, digs y.data.toList = q := ⟨_, rfl⟩
  rw [hq1] at D1 hx0 hform
  rw [hq2] at D2 hy0 hform
  have HC := Lib.hid C
  have H1 := Lib.hid D1
  have H2 := Lib.hid D2
  clear C D1 D2 hq1 hq2
  cases q1 with
  | false =>
    have HF := Lib.hid (chk5_form (l := s.data.toList) (by rw [hform]; rfl))
    clear hform hx0 hy0
    go_enter Tryz.func6, Tryz.ntmps6
    go_wp2_with fail
    refine (HC.out _).mono ?_
    rintro e w1 ⟨rfl, hb⟩
    go_wp2_with fail
    refine (H1.out _).mono ?_
    rintro e w2 ⟨rfl, rfl⟩
    go_wp2
    go_ret
    exact ⟨ret_int HF.out.symm, hb⟩
  | true =>
    obtain ⟨n, hn⟩ : ∃ n, x.size = n + 1 := ⟨x.size - 1, by have := hx0 rfl; omega⟩
    have hx1 : 0 < x.size := by rw [hn]; exact Nat.succ_pos n
    have hxp : (0 : Int) < (x.size : Int) := by omega
    rw [head0 x hx1] at hform
    obtain ⟨h0, hh0⟩ : ∃ q, (((x[0]'hx1).toNat : Int) == 48) = q := ⟨_, rfl⟩
    rw [show (((x[0]'hx1).toNat : Int) != 48) = !h0 from by rw [← hh0]; rfl] at hform
    have hone : (x.size == 1) = !decide (1 < (x.size : Int)) := by
      by_cases h : x.size = 1
      · simp [h]
      · rw [beq_eq_false_iff_ne.2 h, decide_eq_true (by omega)]; rfl
    rw [hone] at hform
    obtain ⟨g1, hg1⟩ : ∃ q, decide (1 < (x.size : Int)) = q := ⟨_, rfl⟩
    rw [hg1] at hform
    cases p with
    | false =>
      by_cases hf : g1 = true ∧ h0 = true
      · obtain ⟨rfl, rfl⟩ := hf
        have HF := Lib.hid (chk5_form (l := s.data.toList) (by rw [hform]; rfl))
        have hg : 1 < (x.size : Int) := of_decide_eq_true hg1
        clear hform hy0 hx0 hone hg1 hxs2 hys2
        go_enter Tryz.func6, Tryz.ntmps6
        go_wp2_with fail
        refine (HC.out _).mono ?_
        rintro e w1 ⟨rfl, hb⟩
        go_wp2_with fail
        refine (H1.out _).mono ?_
        rintro e w2 ⟨rfl, rfl⟩
        go_wp2
        go_ret
        exact ⟨ret_int HF.out.symm, hb⟩
      · have HF := Lib.hid (chk5_fine (l := s.data.toList) (by rw [hform]; cases g1 <;> cases h0 <;> simp_all))
        clear hform hy0 hx0 hone hxs2 hys2
        cases g1 with
        | false =>
          have hg : ¬ 1 < (x.size : Int) := of_decide_eq_false hg1
          clear hg1 hf
          go_enter Tryz.func6, Tryz.ntmps6
          go_wp2_with fail
          refine (HC.out _).mono ?_
          rintro e w1 ⟨rfl, hb⟩
          go_wp2_with fail
          refine (H1.out _).mono ?_
          rintro e w2 ⟨rfl, rfl⟩
          go_wp2
          all_goals go_ret
          all_goals
            refine ⟨ret_int ?_, by (repeat' (first | (with_reducible exact Below.refl _ _) | (with_reducible assumption) | (with_reducible refine below_drewN ?_ _) | (with_reducible refine Below.drew ?_) | (with_reducible refine Below.setCell ?_ ?_ _) | (with_reducible refine Below.alloc ?_ ?_ _) | (with_reducible refine below_after ?_ ?_ (by assumption)) | (show _ ≤ _; first | omega | (simp; done) | (simp; omega))))⟩
            obtain ⟨l1, l2, l3⟩ := HL.out
            rw [HF.out, ← l1, ← l2]
            simp_all
            try omega
        | true =>
          have hg : 1 < (x.size : Int) := of_decide_eq_true hg1
          obtain rfl : h0 = false := by cases h0 <;> simp_all
          clear hg1 hf
          go_enter Tryz.func6, Tryz.ntmps6
          go_wp2_with fail
          refine (HC.out _).mono ?_
          rintro e w1 ⟨rfl, hb⟩
          go_wp2_with fail
          refine (H1.out _).mono ?_
          rintro e w2 ⟨rfl, rfl⟩
          go_wp2
          all_goals go_ret
          all_goals
            refine ⟨ret_int ?_, by (repeat' (first | (with_reducible exact Below.refl _ _) | (with_reducible assumption) | (with_reducible refine below_drewN ?_ _) | (with_reducible refine Below.drew ?_) | (with_reducible refine Below.setCell ?_ ?_ _) | (with_reducible refine Below.alloc ?_ ?_ _) | (with_reducible refine below_after ?_ ?_ (by assumption)) | (show _ ≤ _; first | omega | (simp; done) | (simp; omega))))⟩
            obtain ⟨l1, l2, l3⟩ := HL.out
            rw [HF.out, ← l1, ← l2]
            simp_all
            try omega
    | true =>
      cases q2 with
      | false =>
        have HF := Lib.hid (chk5_form (l := s.data.toList) (by rw [hform]; rfl))
        clear hform hx0 hy0
        go_enter Tryz.func6, Tryz.ntmps6
        go_wp2_with fail
        refine (HC.out _).mono ?_
        rintro e w1 ⟨rfl, hb⟩
        go_wp2_with fail
        refine (H1.out _).mono ?_
        rintro e w2 ⟨rfl, rfl⟩
        go_wp2_with fail
        refine (H2.out _).mono ?_
        rintro e w3 ⟨rfl, rfl⟩
        go_wp2
        go_ret
        exact ⟨ret_int HF.out.symm, hb⟩
      | true =>
        obtain ⟨m, hm⟩ : ∃ m, y.size = m + 1 := ⟨y.size - 1, by have := hy0 rfl; omega⟩
        have hmlt : m < y.size := by rw [hm]; exact Nat.lt_succ_self m
        have hlast := last0 y m hm
        obtain ⟨l0, hl0⟩ : ∃ q, (((y[m]'hmlt).toNat : Int) == 48) = q := ⟨_, rfl⟩
        rw [hl0] at hlast
        rw [show (y.data.toList.getLast? != some 48) = !l0 from by rw [← hlast]; rfl] at hform
        have hms : (y.size : Int) - 1 = (m : Int) := by omega
        have hmi : (m : Int) < (y.size : Int) := by omega
        have hm0 : (0 : Int) ≤ (m : Int) := by omega
        have hmw : IntKind.i64.wrap ((y.size : Int) - 1) = (m : Int) := by rw [hms]; exact IntWalk.i64_in _ (by omega)
        have hmw2 : wrap64 (m : Int) = (m : Int) := by rw [← IntWalk.i64_left]; exact IntWalk.i64_in _ (by omega)
        have HM := Lib.hid hm
        clear hlast hx0 hy0 hone hxs2 hys2
        by_cases hf : (g1 = true ∧ h0 = true) ∨ l0 = true
        · have HF := Lib.hid (chk5_form (l := s.data.toList) (by rw [hform]; rcases hf with ⟨rfl, rfl⟩ | rfl <;> simp))
          clear hform
          cases g1 with
          | false =>
            have hg : ¬ 1 < (x.size : Int) := of_decide_eq_false hg1
            obtain rfl : l0 = true := by simpa using hf
            clear hg1 hf
            go_enter Tryz.func6, Tryz.ntmps6
            go_wp2_with fail
            refine (HC.out _).mono ?_
            rintro e w1 ⟨rfl, hb⟩
            go_wp2_with fail
            refine (H1.out _).mono ?_
            rintro e w2 ⟨rfl, rfl⟩
            go_wp2_with fail
            refine (H2.out _).mono ?_
            rintro e w3 ⟨rfl, rfl⟩
            go_wp2
            go_ret
            exact ⟨ret_int HF.out.symm, hb⟩
          | true =>
            have hg : 1 < (x.size : Int) := of_decide_eq_true hg1
            clear hg1
            cases h0 with
            | true =>
              clear hf
              go_enter Tryz.func6, Tryz.ntmps6
              go_wp2_with fail
              refine (HC.out _).mono ?_
              rintro e w1 ⟨rfl, hb⟩
              go_wp2_with fail
              refine (H1.out _).mono ?_
              rintro e w2 ⟨rfl, rfl⟩
              go_wp2_with fail
              refine (H2.out _).mono ?_
              rintro e w3 ⟨rfl, rfl⟩
              go_wp2
              go_ret
              exact ⟨ret_int HF.out.symm, hb⟩
            | false =>
              obtain rfl : l0 = true := by simpa using hf
              clear hf
              go_enter Tryz.func6, Tryz.ntmps6
              go_wp2_with fail
              refine (HC.out _).mono ?_
              rintro e w1 ⟨rfl, hb⟩
              go_wp2_with fail
              refine (H1.out _).mono ?_
              rintro e w2 ⟨rfl, rfl⟩
              go_wp2_with fail
              refine (H2.out _).mono ?_
              rintro e w3 ⟨rfl, rfl⟩
              go_wp2
              go_ret
              exact ⟨ret_int HF.out.symm, hb⟩
        · obtain rfl : l0 = false := by cases l0 <;> simp_all
          have HF := Lib.hid (chk5_fine (l := s.data.toList) (by rw [hform]; cases g1 <;> cases h0 <;> simp_all))
          clear hform
          cases g1 with
          | false =>
            have hg : ¬ 1 < (x.size : Int) := of_decide_eq_false hg1
            clear hg1 hf
            go_enter Tryz.func6, Tryz.ntmps6
            go_wp2_with fail
            refine (HC.out _).mono ?_
            rintro e w1 ⟨rfl, hb⟩
            go_wp2_with fail
            refine (H1.out _).mono ?_
            rintro e w2 ⟨rfl, rfl⟩
            go_wp2_with fail
            refine (H2.out _).mono ?_
            rintro e w3 ⟨rfl, rfl⟩
            go_wp2
            all_goals go_ret
            all_goals
              refine ⟨ret_int ?_, by (repeat' (first | (with_reducible exact Below.refl _ _) | (with_reducible assumption) | (with_reducible refine below_drewN ?_ _) | (with_reducible refine Below.drew ?_) | (with_reducible refine Below.setCell ?_ ?_ _) | (with_reducible refine Below.alloc ?_ ?_ _) | (with_reducible refine below_after ?_ ?_ (by assumption)) | (show _ ≤ _; first | omega | (simp; done) | (simp; omega))))⟩
              obtain ⟨l1, l2, l3⟩ := HL.out
              rw [HF.out, ← l1, ← l2]
              simp_all
              try omega
          | true =>
            have hg : 1 < (x.size : Int) := of_decide_eq_true hg1
            obtain rfl : h0 = false := by cases h0 <;> simp_all
            clear hg1 hf
            go_enter Tryz.func6, Tryz.ntmps6
            go_wp2_with fail
            refine (HC.out _).mono ?_
            rintro e w1 ⟨rfl, hb⟩
            go_wp2_with fail
            refine (H1.out _).mono ?_
            rintro e w2 ⟨rfl, rfl⟩
            go_wp2_with fail
            refine (H2.out _).mono ?_
            rintro e w3 ⟨rfl, rfl⟩
            go_wp2
            all_goals go_ret
            all_goals
              refine ⟨ret_int ?_, by (repeat' (first | (with_reducible exact Below.refl _ _) | (with_reducible assumption) | (with_reducible refine below_drewN ?_ _) | (with_reducible refine Below.drew ?_) | (with_reducible refine Below.setCell ?_ ?_ _) | (with_reducible refine Below.alloc ?_ ?_ _) | (with_reducible refine below_after ?_ ?_ (by assumption)) | (show _ ≤ _; first | omega | (simp; done) | (simp; omega))))⟩
              obtain ⟨l1, l2, l3⟩ := HL.out
              rw [HF.out, ← l1, ← l2]
              simp_all
              try omega
end Go.Proofs.YtndkpdiacabjgaaGreatDoor
