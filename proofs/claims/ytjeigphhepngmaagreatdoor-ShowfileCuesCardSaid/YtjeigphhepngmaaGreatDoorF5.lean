/-
  The checks of numbers.
  The reference's check of numbers.
-/
import Derived.Test.YtjeigphhepngmaaGreatDoorC5
namespace Go.Proofs.YtjeigphhepngmaaGreatDoor
open Go.RowKit

theorem str_data (l : List UInt8) : (str l).data.toList = l := by simp [str]
theorem str_len (l : List UInt8) : (str l).size = l.length := by
  have : (str l).data.toList.length = (str l).size := by simp
  rw [← this, str_data]

theorem chk5_form {l : List UInt8} (h : formE (wholeOf l) (restOf l) (hasPt l) = false) : chk5 l = 3 := by rw [chk5, if_pos h]
theorem chk5_fine {l : List UInt8} (h : formE (wholeOf l) (restOf l) (hasPt l) = true) : chk5 l = if l = [48] ∨ 4 < (wholeOf l).length ∨ 3 < (restOf l).length then 2 else 0 := by
  rw [chk5, if_neg (by rw [h]; simp)]

def formFns (p : Nat) : Array Value := #[.func (.func 247) #[] #[.pointer (some ⟨p, 0, none⟩)], .func (.func 249) #[] #[.pointer (some ⟨p, 0, none⟩)], .func (.func 251) #[] #[.pointer (some ⟨p, 0, none⟩)]]

theorem part_len : ∀ l : List UInt8, (wholeOf l).length ≤ l.length ∧ (restOf l).length ≤ l.length
  | [] => ⟨Nat.le_refl _, Nat.le_refl _⟩
  | b :: l => by
    by_cases hb : b = 46
    · simp [wholeOf, restOf, hb]
    · have := part_len l
      simp [wholeOf, restOf, hb]
      omega

set_option maxHeartbeats 4000000 in
set_option maxRecDepth 100000 in
theorem check5_any (s : ByteArray) (w : World) (hs : s.size ≤ 9223372036854775806) :
    Calls Tryz.prog 153 #[.string s] w fun e w' => e = .returned (.int .i64 (chk5 s.data.toList)) ∧ Below w.heap.size w w' := by
  have C := cut5_any s
  have hlr : (restOf s.data.toList).length ≤ s.size := by have := (part_len s.data.toList).2; simpa using this
  have hlw : (wholeOf s.data.toList).length ≤ s.size := by have := (part_len s.data.toList).1; simpa using this
  obtain ⟨x, hx⟩ : ∃ x, str (wholeOf s.data.toList) = x := ⟨_, rfl⟩
  obtain ⟨y, hy⟩ : ∃ y, str (restOf s.data.toList) = y := ⟨_, rfl⟩
  obtain ⟨p, hp⟩ : ∃ p, hasPt s.data.toList = p := ⟨_, rfl⟩
  have hxl : x.data.toList = wholeOf s.data.toList := by rw [← hx, str_data]
  have hyl : y.data.toList = restOf s.data.toList := by rw [← hy, str_data]
  have hxs : x.size = (wholeOf s.data.toList).length := by rw [← hx, str_len]
  have hys : y.size = (restOf s.data.toList).length := by rw [← hy, str_len]
  have hys2 : y.size ≤ 9223372036854775806 := by omega
  have hform : formE (wholeOf s.data.toList) (restOf s.data.toList) (hasPt s.data.toList) = (digs x.data.toList && ((!p || (digs y.data.toList && y.data.toList.getLast? != some 48)) && (x.data.toList.length == 1 || x.data.toList.head? != some 48))) := by
    rw [hxl, hyl, hp]; rfl
  have hx0 : digs x.data.toList = true → 0 < x.size := fun h => by
    have : x.data.toList.length = x.size := by simp
    cases hh : x.data.toList with
    | nil => rw [hh] at h; simp [digs] at h
    | cons a t => rw [hh] at this; simp at this; omega
  rw [hx, hy, hp] at C
  have F1 := fun b T W h => form1_any b T x y p W h
  have F2 := fun b T W h => form2_any b T x y p W h hys2
  have F3 := fun b T W h => form3_any b T x y p W h
  obtain ⟨q1, hq1⟩ : ∃ q, digs x.data.toList = q := ⟨_, rfl⟩
  obtain ⟨q2, hq2⟩ : ∃ q, (!p || (digs y.data.toList && y.data.toList.getLast? != some 48)) = q := ⟨_, rfl⟩
  obtain ⟨q3, hq3⟩ : ∃ q, (x.data.toList.length == 1 || x.data.toList.head? != some 48) = q := ⟨_, rfl⟩
  rw [hq1, hq2, hq3] at hform
  rw [hq1] at F1 hx0
  rw [hq2] at F2
  rw [hq3] at F3
  obtain ⟨z, hz⟩ : ∃ z, (s.toList == [48]) = z := ⟨_, rfl⟩
  have hz2 : (s.data.toList = [48]) ↔ z = true := by rw [← hz, Lib.toList_data]; simp
  have HF := Lib.hid hform
  have HL := Lib.hid (And.intro hxs (And.intro hys hz2))
  have HC := Lib.hid (C · (by omega))
  have H1 := Lib.hid F1
  have H2 := Lib.hid F2
  have H3 := Lib.hid F3
  have H0 := Lib.hid hx0
  clear C hx hy hp hxl hyl hxs hys hys2 hform hq1 hq2 hq3 F1 F2 F3 hx0 hz2 hs hlr hlw
  go_enter Tryz.func153, Tryz.ntmps153
  go_wp2_with fail
  refine (HC.out _).mono ?_
  rintro e w1 ⟨rfl, hb⟩
  have hw1 := hb.size
  (try simp at hw1)
  have hR : RowAt w1 w.heap.size 322 #[.string ⟨#[]⟩, .string ⟨#[]⟩, .bool false] := (by (repeat' (first | (with_reducible assumption) | (with_reducible refine RowAt.drewN ?_ _) | (with_reducible refine RowAt.drew ?_) | (with_reducible apply RowAt.six) | (with_reducible apply RowAt.seven) | ((with_reducible refine RowAt.mk ?_ ?_); (focus (first | rfl | (simp; done))); rfl) | (with_reducible refine RowAt.alloc ?_ _) | (with_reducible refine RowAt.far ?_ ?_) | (with_reducible refine RowAt.run ?_ (by assumption)) | (with_reducible refine RowAt.below ?_ (by assumption) ?_) | (with_reducible refine RowAt.upd ?_ (by assumption) ?_) | (show _ < _; first | omega | (simp; done) | (simp; omega)) | (show ¬ _ = _; first | omega | (simp; done) | (simp; omega)) | exact rfl))); obtain ⟨hRa, hRb, hRc, hRd, hRe, hRf⟩ := row_facts hR
  go_wp2
  go_loopw [6, 22] (fun _ i wr => ∃ k : Nat, k ≤ 3 ∧ i = .int .i64 k ∧ Hid ((1 ≤ k → q1 = true) ∧ (2 ≤ k → q2 = true) ∧ (3 ≤ k → q3 = true)) ∧ RowAt wr w.heap.size 322 #[.string x, .string y, .bool p] ∧ RowAt wr w1.heap.size 33 (formFns w.heap.size) ∧ Below w.heap.size w wr) (fun _ i _ => 3 - (intOf i).toNat)
  case atStart => exact ⟨0, by omega, rfl, by simp [Hid], (RowAt.three hR).alloc _, RowAt.mk (by simp) rfl, by (repeat' (first | (with_reducible exact Below.refl _ _) | (with_reducible assumption) | (with_reducible refine below_drewN ?_ _) | (with_reducible refine Below.drew ?_) | (with_reducible refine Below.setCell ?_ ?_ _) | (with_reducible refine Below.alloc ?_ ?_ _) | (with_reducible refine below_after ?_ ?_ (by assumption)) | (show _ ≤ _; first | omega | (simp; done) | (simp; omega))))⟩
  case round =>
    obtain ⟨k, hk, rfl, hqs, hr1, hr2, hbel⟩ := hrel
    obtain ⟨a1, a2, a3, a4, a5, a6⟩ := row_facts hr1
    obtain ⟨b1, b2, b3, b4, b5, b6⟩ := row_facts hr2
    simp only [formFns] at b1
    have hk4 : k = 0 ∨ k = 1 ∨ k = 2 ∨ k = 3 := by omega
    rcases hk4 with rfl | rfl | rfl | rfl
    · go_wp2_with fail
      refine (H1.out _ _ _ hr1).mono ?_
      rintro e w3 ⟨rfl, hb3⟩
      have r1 := hr1.run hb3
      have r2 := hr2.run hb3
      cases q1 with
      | false =>
        go_wp2
        go_ret
        exact ⟨ret_int (chk5_form (by rw [HF.out]; rfl)).symm, below_run hbel hb3⟩
      | true =>
        go_wp2
        go_roundw
        case rel => exact ⟨1, by omega, by go_num, by simp [Hid], r1, r2, below_run hbel hb3⟩
        case measure => simp [intOf]
    · go_wp2_with fail
      refine (H2.out _ _ _ hr1).mono ?_
      rintro e w3 ⟨rfl, hb3⟩
      have r1 := hr1.run hb3
      have r2 := hr2.run hb3
      have hq1 := hqs.out.1 (by omega)
      cases q2 with
      | false =>
        go_wp2
        go_ret
        exact ⟨ret_int (chk5_form (by rw [HF.out]; simp)).symm, below_run hbel hb3⟩
      | true =>
        go_wp2
        go_roundw
        case rel => exact ⟨2, by omega, by go_num, by simp [Hid, hq1], r1, r2, below_run hbel hb3⟩
        case measure => simp [intOf]
    · have hq1 := hqs.out.1 (by omega)
      have hq2 := hqs.out.2.1 (by omega)
      go_wp2_with fail
      refine (H3.out _ _ _ hr1 (H0.out hq1)).mono ?_
      rintro e w3 ⟨rfl, hb3⟩
      have r1 := hr1.run hb3
      have r2 := hr2.run hb3
      cases q3 with
      | false =>
        go_wp2
        go_ret
        exact ⟨ret_int (chk5_form (by rw [HF.out]; simp)).symm, below_run hbel hb3⟩
      | true =>
        go_wp2
        go_roundw
        case rel => exact ⟨3, by omega, by go_num, by simp [Hid, hq1, hq2], r1, r2, below_run hbel hb3⟩
        case measure => simp [intOf]
    · have hq1 := hqs.out.1 (by omega)
      have hq2 := hqs.out.2.1 (by omega)
      have hq3 := hqs.out.2.2 (by omega)
      have hfine := chk5_fine (l := s.data.toList) (by rw [HF.out, hq1, hq2, hq3]; rfl)
      have HFI := Lib.hid hfine
      clear hfine hq1 hq2 hq3
      go_wp2
      all_goals go_ret
      all_goals
        refine ⟨ret_int ?_, by (repeat' (first | (with_reducible exact Below.refl _ _) | (with_reducible assumption) | (with_reducible refine below_drewN ?_ _) | (with_reducible refine Below.drew ?_) | (with_reducible refine Below.setCell ?_ ?_ _) | (with_reducible refine Below.alloc ?_ ?_ _) | (with_reducible refine below_after ?_ ?_ (by assumption)) | (show _ ≤ _; first | omega | (simp; done) | (simp; omega))))⟩
        obtain ⟨l1, l2, l3⟩ := HL.out
        rw [HFI.out, ← l1, ← l2]
        simp_all
        try omega
end Go.Proofs.YtjeigphhepngmaaGreatDoor

namespace Go.Proofs.YtjeigphhepngmaaGreatDoor
open Go.RowKit

theorem last0 (y : ByteArray) (n : Nat) (h : y.size = n + 1) : (y.data.toList.getLast? == some 48) = (((y[n]'(by omega)).toNat : Int) == 48) := by
  have h0 : y.data.toList.getLast? = some (y[n]'(by omega)) := by
    have hl : y.data.toList.length = n + 1 := by simpa using h
    rw [List.getLast?_eq_getElem?, hl, List.getElem?_eq_getElem (by omega)]
    rfl
  rw [h0]
  by_cases h1 : y[n]'(by omega) = 48
  · rw [h1]; rfl
  · have h2 : ¬ ((y[n]'(by omega)).toNat : Int) = 48 := fun e => h1 (UInt8.toNat_inj.1 (by simpa using Int.ofNat.inj e))
    rw [beq_eq_false_iff_ne.2 h2]
    simpa using h1

theorem digs_pos {x : ByteArray} (h : digs x.data.toList = true) : 0 < x.size := by
  have : x.data.toList.length = x.size := by simp
  cases hh : x.data.toList with
  | nil => rw [hh] at h; simp [digs] at h
  | cons a t => rw [hh] at this; simp at this; omega

set_option maxHeartbeats 4000000 in
set_option maxRecDepth 100000 in
theorem rcheck5_any (s : ByteArray) (w : World) (hs : s.size ≤ 9223372036854775806) :
    Calls Tryz.prog 166 #[.string s] w fun e w' => e = .returned (.int .i64 (chk5 s.data.toList)) ∧ Below w.heap.size w w' := by
  have C := fun W => split_any s W (by omega)
  have hlr : (restOf s.data.toList).length ≤ s.size := by have := (part_len s.data.toList).2; simpa using this
  have hlw : (wholeOf s.data.toList).length ≤ s.size := by have := (part_len s.data.toList).1; simpa using this
  obtain ⟨x, hx⟩ : ∃ x, str (wholeOf s.data.toList) = x := ⟨_, rfl⟩
  obtain ⟨y, hy⟩ : ∃ y, str (restOf s.data.toList) = y := ⟨_, rfl⟩
  obtain ⟨p, hp⟩ : ∃ p, hasPt s.data.toList = p := ⟨_, rfl⟩
  have hxl : x.data.toList = wholeOf s.data.toList := by rw [← hx, str_data]
  have hyl : y.data.toList = restOf s.data.toList := by rw [← hy, str_data]
  have hxs : x.size = (wholeOf s.data.toList).length := by rw [← hx, str_len]
  have hys : y.size = (restOf s.data.toList).length := by rw [← hy, str_len]
  have hys2 : y.size ≤ 9223372036854775806 := by omega
  have hxs2 : x.size ≤ 9223372036854775806 := by omega
  have hform : formE (wholeOf s.data.toList) (restOf s.data.toList) (hasPt s.data.toList) = (digs x.data.toList && ((!p || (digs y.data.toList && y.data.toList.getLast? != some 48)) && (x.data.toList.length == 1 || x.data.toList.head? != some 48))) := by
    rw [hxl, hyl, hp]; rfl
  have D1 := fun W => rdigits_any x W (by omega)
  have D2 := fun W => rdigits_any y W (by omega)
  rw [hx, hy, hp] at C
  have hlen : x.data.toList.length = x.size := by simp
  rw [hlen] at hform
  obtain ⟨z, hz⟩ : ∃ z, (s.toList == [48]) = z := ⟨_, rfl⟩
  have hz2 : (s.data.toList = [48]) ↔ z = true := by rw [← hz, Lib.toList_data]; simp
  have HL := Lib.hid (And.intro hxs (And.intro hys hz2))
  have hx0 : digs x.data.toList = true → 0 < x.size := digs_pos
  have hy0 : digs y.data.toList = true → 0 < y.size := digs_pos
  clear hx hy hp hxl hyl hxs hys hz2 hs hlr hlw hlen
  obtain ⟨q1, hq1⟩ : ∃ q, digs x.data.toList = q := ⟨_, rfl⟩
  obtain ⟨q2, hq2⟩ : ∃ q, digs y.data.toList = q := ⟨_, rfl⟩
  rw [hq1] at D1 hx0 hform
  rw [hq2] at D2 hy0 hform
  have HC := Lib.hid C
  have H1 := Lib.hid D1
  have H2 := Lib.hid D2
  clear C D1 D2 hq1 hq2
  cases q1 with
  | false =>
    have HF := Lib.hid (chk5_form (l := s.data.toList) (by rw [hform]; rfl))
    clear hform hx0 hy0
    go_enter Tryz.func166, Tryz.ntmps166
    go_wp2_with fail
    refine (HC.out _).mono ?_
    rintro e w1 ⟨rfl, hb⟩
    go_wp2_with fail
    refine (H1.out _).mono ?_
    rintro e w2 ⟨rfl, rfl⟩
    go_wp2
    go_ret
    exact ⟨ret_int HF.out.symm, hb⟩
  | true =>
    obtain ⟨n, hn⟩ : ∃ n, x.size = n + 1 := ⟨x.size - 1, by have := hx0 rfl; omega⟩
    have hx1 : 0 < x.size := by rw [hn]; exact Nat.succ_pos n
    have hxp : (0 : Int) < (x.size : Int) := by omega
    rw [head0 x hx1] at hform
    obtain ⟨h0, hh0⟩ : ∃ q, (((x[0]'hx1).toNat : Int) == 48) = q := ⟨_, rfl⟩
    rw [show (((x[0]'hx1).toNat : Int) != 48) = !h0 from by rw [← hh0]; rfl] at hform
    have hone : (x.size == 1) = !decide (1 < (x.size : Int)) := by
      by_cases h : x.size = 1
      · simp [h]
      · rw [beq_eq_false_iff_ne.2 h, decide_eq_true (by omega)]; rfl
    rw [hone] at hform
    obtain ⟨g1, hg1⟩ : ∃ q, decide (1 < (x.size : Int)) = q := ⟨_, rfl⟩
    rw [hg1] at hform
    cases p with
    | false =>
      by_cases hf : g1 = true ∧ h0 = true
      · obtain ⟨rfl, rfl⟩ := hf
        have HF := Lib.hid (chk5_form (l := s.data.toList) (by rw [hform]; rfl))
        have hg : 1 < (x.size : Int) := of_decide_eq_true hg1
        clear hform hy0 hx0 hone hg1 hxs2 hys2
        go_enter Tryz.func166, Tryz.ntmps166
        go_wp2_with fail
        refine (HC.out _).mono ?_
        rintro e w1 ⟨rfl, hb⟩
        go_wp2_with fail
        refine (H1.out _).mono ?_
        rintro e w2 ⟨rfl, rfl⟩
        go_wp2
        go_ret
        exact ⟨ret_int HF.out.symm, hb⟩
      · have HF := Lib.hid (chk5_fine (l := s.data.toList) (by rw [hform]; cases g1 <;> cases h0 <;> simp_all))
        clear hform hy0 hx0 hone hxs2 hys2
        cases g1 with
        | false =>
          have hg : ¬ 1 < (x.size : Int) := of_decide_eq_false hg1
          clear hg1 hf
          go_enter Tryz.func166, Tryz.ntmps166
          go_wp2_with fail
          refine (HC.out _).mono ?_
          rintro e w1 ⟨rfl, hb⟩
          go_wp2_with fail
          refine (H1.out _).mono ?_
          rintro e w2 ⟨rfl, rfl⟩
          go_wp2
          all_goals go_ret
          all_goals
            refine ⟨ret_int ?_, by (repeat' (first | (with_reducible exact Below.refl _ _) | (with_reducible assumption) | (with_reducible refine below_drewN ?_ _) | (with_reducible refine Below.drew ?_) | (with_reducible refine Below.setCell ?_ ?_ _) | (with_reducible refine Below.alloc ?_ ?_ _) | (with_reducible refine below_after ?_ ?_ (by assumption)) | (show _ ≤ _; first | omega | (simp; done) | (simp; omega))))⟩
            obtain ⟨l1, l2, l3⟩ := HL.out
            rw [HF.out, ← l1, ← l2]
            simp_all
            try omega
        | true =>
          have hg : 1 < (x.size : Int) := of_decide_eq_true hg1
          obtain rfl : h0 = false := by cases h0 <;> simp_all
          clear hg1 hf
          go_enter Tryz.func166, Tryz.ntmps166
          go_wp2_with fail
          refine (HC.out _).mono ?_
          rintro e w1 ⟨rfl, hb⟩
          go_wp2_with fail
          refine (H1.out _).mono ?_
          rintro e w2 ⟨rfl, rfl⟩
          go_wp2
          all_goals go_ret
          all_goals
            refine ⟨ret_int ?_, by (repeat' (first | (with_reducible exact Below.refl _ _) | (with_reducible assumption) | (with_reducible refine below_drewN ?_ _) | (with_reducible refine Below.drew ?_) | (with_reducible refine Below.setCell ?_ ?_ _) | (with_reducible refine Below.alloc ?_ ?_ _) | (with_reducible refine below_after ?_ ?_ (by assumption)) | (show _ ≤ _; first | omega | (simp; done) | (simp; omega))))⟩
            obtain ⟨l1, l2, l3⟩ := HL.out
            rw [HF.out, ← l1, ← l2]
            simp_all
            try omega
    | true =>
      cases q2 with
      | false =>
        have HF := Lib.hid (chk5_form (l := s.data.toList) (by rw [hform]; rfl))
        clear hform hx0 hy0
        go_enter Tryz.func166, Tryz.ntmps166
        go_wp2_with fail
        refine (HC.out _).mono ?_
        rintro e w1 ⟨rfl, hb⟩
        go_wp2_with fail
        refine (H1.out _).mono ?_
        rintro e w2 ⟨rfl, rfl⟩
        go_wp2_with fail
        refine (H2.out _).mono ?_
        rintro e w3 ⟨rfl, rfl⟩
        go_wp2
        go_ret
        exact ⟨ret_int HF.out.symm, hb⟩
      | true =>
        obtain ⟨m, hm⟩ : ∃ m, y.size = m + 1 := ⟨y.size - 1, by have := hy0 rfl; omega⟩
        have hmlt : m < y.size := by rw [hm]; exact Nat.lt_succ_self m
        have hlast := last0 y m hm
        obtain ⟨l0, hl0⟩ : ∃ q, (((y[m]'hmlt).toNat : Int) == 48) = q := ⟨_, rfl⟩
        rw [hl0] at hlast
        rw [show (y.data.toList.getLast? != some 48) = !l0 from by rw [← hlast]; rfl] at hform
        have hms : (y.size : Int) - 1 = (m : Int) := by omega
        have hmi : (m : Int) < (y.size : Int) := by omega
        have hm0 : (0 : Int) ≤ (m : Int) := by omega
        have hmw : IntKind.i64.wrap ((y.size : Int) - 1) = (m : Int) := by rw [hms]; exact IntWalk.i64_in _ (by omega)
        have hmw2 : wrap64 (m : Int) = (m : Int) := by rw [← IntWalk.i64_left]; exact IntWalk.i64_in _ (by omega)
        have HM := Lib.hid hm
        clear hlast hx0 hy0 hone hxs2 hys2
        by_cases hf : (g1 = true ∧ h0 = true) ∨ l0 = true
        · have HF := Lib.hid (chk5_form (l := s.data.toList) (by rw [hform]; rcases hf with ⟨rfl, rfl⟩ | rfl <;> simp))
          clear hform
          cases g1 with
          | false =>
            have hg : ¬ 1 < (x.size : Int) := of_decide_eq_false hg1
            obtain rfl : l0 = true := by simpa using hf
            clear hg1 hf
            go_enter Tryz.func166, Tryz.ntmps166
            go_wp2_with fail
            refine (HC.out _).mono ?_
            rintro e w1 ⟨rfl, hb⟩
            go_wp2_with fail
            refine (H1.out _).mono ?_
            rintro e w2 ⟨rfl, rfl⟩
            go_wp2_with fail
            refine (H2.out _).mono ?_
            rintro e w3 ⟨rfl, rfl⟩
            go_wp2
            go_ret
            exact ⟨ret_int HF.out.symm, hb⟩
          | true =>
            have hg : 1 < (x.size : Int) := of_decide_eq_true hg1
            clear hg1
            cases h0 with
            | true =>
              clear hf
              go_enter Tryz.func166, Tryz.ntmps166
              go_wp2_with fail
              refine (HC.out _).mono ?_
              rintro e w1 ⟨rfl, hb⟩
              go_wp2_with fail
              refine (H1.out _).mono ?_
              rintro e w2 ⟨rfl, rfl⟩
              go_wp2_with fail
              refine (H2.out _).mono ?_
              rintro e w3 ⟨rfl, rfl⟩
              go_wp2
              go_ret
              exact ⟨ret_int HF.out.symm, hb⟩
            | false =>
              obtain rfl : l0 = true := by simpa using hf
              clear hf
              go_enter Tryz.func166, Tryz.ntmps166
              go_wp2_with fail
              refine (HC.out _).mono ?_
              rintro e w1 ⟨rfl, hb⟩
              go_wp2_with fail
              refine (H1.out _).mono ?_
              rintro e w2 ⟨rfl, rfl⟩
              go_wp2_with fail
              refine (H2.out _).mono ?_
              rintro e w3 ⟨rfl, rfl⟩
              go_wp2
              go_ret
              exact ⟨ret_int HF.out.symm, hb⟩
        · obtain rfl : l0 = false := by cases l0 <;> simp_all
          have HF := Lib.hid (chk5_fine (l := s.data.toList) (by rw [hform]; cases g1 <;> cases h0 <;> simp_all))
          clear hform
          cases g1 with
          | false =>
            have hg : ¬ 1 < (x.size : Int) := of_decide_eq_false hg1
            clear hg1 hf
            go_enter Tryz.func166, Tryz.ntmps166
            go_wp2_with fail
            refine (HC.out _).mono ?_
            rintro e w1 ⟨rfl, hb⟩
            go_wp2_with fail
            refine (H1.out _).mono ?_
            rintro e w2 ⟨rfl, rfl⟩
            go_wp2_with fail
            refine (H2.out _).mono ?_
            rintro e w3 ⟨rfl, rfl⟩
            go_wp2
            all_goals go_ret
            all_goals
              refine ⟨ret_int ?_, by (repeat' (first | (with_reducible exact Below.refl _ _) | (with_reducible assumption) | (with_reducible refine below_drewN ?_ _) | (with_reducible refine Below.drew ?_) | (with_reducible refine Below.setCell ?_ ?_ _) | (with_reducible refine Below.alloc ?_ ?_ _) | (with_reducible refine below_after ?_ ?_ (by assumption)) | (show _ ≤ _; first | omega | (simp; done) | (simp; omega))))⟩
              obtain ⟨l1, l2, l3⟩ := HL.out
              rw [HF.out, ← l1, ← l2]
              simp_all
              try omega
          | true =>
            have hg : 1 < (x.size : Int) := of_decide_eq_true hg1
            obtain rfl : h0 = false := by cases h0 <;> simp_all
            clear hg1 hf
            go_enter Tryz.func166, Tryz.ntmps166
            go_wp2_with fail
            refine (HC.out _).mono ?_
            rintro e w1 ⟨rfl, hb⟩
            go_wp2_with fail
            refine (H1.out _).mono ?_
            rintro e w2 ⟨rfl, rfl⟩
            go_wp2_with fail
            refine (H2.out _).mono ?_
            rintro e w3 ⟨rfl, rfl⟩
            go_wp2
            all_goals go_ret
            all_goals
              refine ⟨ret_int ?_, by (repeat' (first | (with_reducible exact Below.refl _ _) | (with_reducible assumption) | (with_reducible refine below_drewN ?_ _) | (with_reducible refine Below.drew ?_) | (with_reducible refine Below.setCell ?_ ?_ _) | (with_reducible refine Below.alloc ?_ ?_ _) | (with_reducible refine below_after ?_ ?_ (by assumption)) | (show _ ≤ _; first | omega | (simp; done) | (simp; omega))))⟩
              obtain ⟨l1, l2, l3⟩ := HL.out
              rw [HF.out, ← l1, ← l2]
              simp_all
              try omega
end Go.Proofs.YtjeigphhepngmaaGreatDoor
