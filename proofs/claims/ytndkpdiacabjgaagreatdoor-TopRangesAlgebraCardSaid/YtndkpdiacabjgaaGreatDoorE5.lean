/-
  The checks of numbers.
-/
import Derived.Test.YtndkpdiacabjgaaGreatDoorC5
namespace Go.Proofs.YtndkpdiacabjgaaGreatDoor
open Go.RowKit

theorem str_data (l : List UInt8) : (str l).data.toList = l := by simp [str]
theorem str_len (l : List UInt8) : (str l).size = l.length := by
  have : (str l).data.toList.length = (str l).size := by simp
  rw [← this, str_data]

theorem chk5_form {l : List UInt8} (h : formE (wholeOf l) (restOf l) (hasPt l) = false) : chk5 l = 3 := by rw [chk5, if_pos h]
theorem chk5_fine {l : List UInt8} (h : formE (wholeOf l) (restOf l) (hasPt l) = true) : chk5 l = if l = [48] ∨ 4 < (wholeOf l).length ∨ 3 < (restOf l).length then 2 else 0 := by
  rw [chk5, if_neg (by rw [h]; simp)]

def formFns (p : Nat) : Array Value := #[.func (.func 47) #[] #[.pointer (some ⟨p, 0, none⟩)], .func (.func 49) #[] #[.pointer (some ⟨p, 0, none⟩)], .func (.func 51) #[] #[.pointer (some ⟨p, 0, none⟩)]]

theorem part_len : ∀ l : List UInt8, (wholeOf l).length ≤ l.length ∧ (restOf l).length ≤ l.length
  | [] => ⟨Nat.le_refl _, Nat.le_refl _⟩
  | b :: l => by
    by_cases hb : b = 46
    · simp [wholeOf, restOf, hb]
    · have := part_len l
      simp [wholeOf, restOf, hb]
      omega

set_option maxHeartbeats 4000000 in
set_option maxRecDepth 100000 in
theorem check5_any (s : ByteArray) (w : World) (hs : s.size ≤ 9223372036854775806) :
    Calls Tryz.prog 29 #[.string s] w fun e w' => e = .returned (.int .i64 (chk5 s.data.toList)) ∧ Below w.heap.size w w' := by
  have C := cut5_any s
  have hlr : (restOf s.data.toList).length ≤ s.size := by have := (part_len s.data.toList).2; simpa using this
  have hlw : (wholeOf s.data.toList).length ≤ s.size := by have := (part_len s.data.toList).1; simpa using this
  obtain ⟨x, hx⟩ : ∃ x, str (wholeOf s.data.toList) = x := ⟨_, rfl⟩
  obtain ⟨y, hy⟩ : ∃ y, str (restOf s.data.toList) = y := ⟨_, rfl⟩
  obtain ⟨p, hp⟩ : ∃ p, hasPt s.data.toList = p := ⟨_, rfl⟩
  have hxl : x.data.toList = wholeOf s.data.toList := by rw [← hx, str_data]
  have hyl : y.data.toList = restOf s.data.toList := by rw [← hy, str_data]
  have hxs : x.size = (wholeOf s.data.toList).length := by rw [← hx, str_len]
  have hys : y.size = (restOf s.data.toList).length := by rw [← hy, str_len]
  have hys2 : y.size ≤ 9223372036854775806 := by omega
  have hform : formE (wholeOf s.data.toList) (restOf s.data.toList) (hasPt s.data.toList) = (digs x.data.toList && ((!p || (digs y.data.toList && y.data.toList.getLast? != some 48)) && (x.data.toList.length == 1 || x.data.toList.head? != some 48))) := by
    rw [hxl, hyl, hp]; rfl
  have hx0 : digs x.data.toList = true → 0 < x.size := fun h => by
    have : x.data.toList.length = x.size := by simp
    cases hh : x.data.toList with
    | nil => rw [hh] at h; simp [digs] at h
    | cons a t => rw [hh] at this; simp at this; omega
  rw [hx, hy, hp] at C
  have F1 := fun b T W h => form1_any b T x y p W h
  have F2 := fun b T W h => form2_any b T x y p W h hys2
  have F3 := fun b T W h => form3_any b T x y p W h
  obtain ⟨q1, hq1⟩ : ∃ q, digs x.data.toList = q := ⟨_, rfl⟩
  obtain ⟨q2, hq2⟩ : ∃ q, (!p || (digs y.data.toList && y.data.toList.getLast? != some 48)) = q := ⟨_, rfl⟩
  obtain ⟨q3, hq3⟩ : ∃ q, (x.data.toList.length == 1 || x.data.toList.head? != some 48) = q := ⟨_, rfl⟩
  rw [hq1, hq2, hq3] at hform
  rw [hq1] at F1 hx0
  rw [hq2] at F2
  rw [hq3] at F3
  obtain ⟨z, hz⟩ : ∃ z, (s.toList == [48]) = z := ⟨_, rfl⟩
  have hz2 : (s.data.toList = [48]) ↔ z = true := by rw [← hz, Lib.toList_data]; simp
  have HF := Lib.hid hform
  have HL := Lib.hid (And.intro hxs (And.intro hys hz2))
  have HC := Lib.hid (C · (by omega))
  have H1 := Lib.hid F1
  have H2 := Lib.hid F2
  have H3 := Lib.hid F3
  have H0 := Lib.hid hx0
  clear C hx hy hp hxl hyl hxs hys hys2 hform hq1 hq2 hq3 F1 F2 F3 hx0 hz2 hs hlr hlw
  go_enter Tryz.func29, Tryz.ntmps29
  go_wp2_with fail
  refine (HC.out _).mono ?_
  rintro e w1 ⟨rfl, hb⟩
  have hw1 := hb.size
  (try simp at hw1)
  have hR : RowAt w1 w.heap.size 80 #[.string ⟨#[]⟩, .string ⟨#[]⟩, .bool false] := (by (repeat' (first | (with_reducible assumption) | (with_reducible refine RowAt.drewN ?_ _) | (with_reducible refine RowAt.drew ?_) | (with_reducible apply RowAt.six) | (with_reducible apply RowAt.seven) | ((with_reducible refine RowAt.mk ?_ ?_); (focus (first | rfl | (simp; done))); rfl) | (with_reducible refine RowAt.alloc ?_ _) | (with_reducible refine RowAt.far ?_ ?_) | (with_reducible refine RowAt.run ?_ (by assumption)) | (with_reducible refine RowAt.below ?_ (by assumption) ?_) | (with_reducible refine RowAt.upd ?_ (by assumption) ?_) | (show _ < _; first | omega | (simp; done) | (simp; omega)) | (show ¬ _ = _; first | omega | (simp; done) | (simp; omega)) | exact rfl))); obtain ⟨hRa, hRb, hRc, hRd, hRe, hRf⟩ := row_facts hR
  go_wp2
  go_loopw [6, 22] (fun _ i wr => ∃ k : Nat, k ≤ 3 ∧ i = .int .i64 k ∧ Hid ((1 ≤ k → q1 = true) ∧ (2 ≤ k → q2 = true) ∧ (3 ≤ k → q3 = true)) ∧ RowAt wr w.heap.size 80 #[.string x, .string y, .bool p] ∧ RowAt wr w1.heap.size 24 (formFns w.heap.size) ∧ Below w.heap.size w wr) (fun _ i _ => 3 - (intOf i).toNat)
  case atStart => exact ⟨0, by omega, rfl, by simp [Hid], (RowAt.three hR).alloc _, RowAt.mk (by simp) rfl, by (repeat' (first | (with_reducible exact Below.refl _ _) | (with_reducible assumption) | (with_reducible refine below_drewN ?_ _) | (with_reducible refine Below.drew ?_) | (with_reducible refine Below.setCell ?_ ?_ _) | (with_reducible refine Below.alloc ?_ ?_ _) | (with_reducible refine below_after ?_ ?_ (by assumption)) | (show _ ≤ _; first | omega | (simp; done) | (simp; omega))))⟩
  case round =>
    obtain ⟨k, hk, rfl, hqs, hr1, hr2, hbel⟩ := hrel
    obtain ⟨a1, a2, a3, a4, a5, a6⟩ := row_facts hr1
    obtain ⟨b1, b2, b3, b4, b5, b6⟩ := row_facts hr2
    simp only [formFns] at b1
    have hk4 : k = 0 ∨ k = 1 ∨ k = 2 ∨ k = 3 := by omega
    rcases hk4 with rfl | rfl | rfl | rfl
    · go_wp2_with fail
      refine (H1.out _ _ _ hr1).mono ?_
      rintro e w3 ⟨rfl, hb3⟩
      have r1 := hr1.run hb3
      have r2 := hr2.run hb3
      cases q1 with
      | false =>
        go_wp2
        go_ret
        exact ⟨ret_int (chk5_form (by rw [HF.out]; rfl)).symm, below_run hbel hb3⟩
      | true =>
        go_wp2
        go_roundw
        case rel => exact ⟨1, by omega, by go_num, by simp [Hid], r1, r2, below_run hbel hb3⟩
        case measure => simp [intOf]
    · go_wp2_with fail
      refine (H2.out _ _ _ hr1).mono ?_
      rintro e w3 ⟨rfl, hb3⟩
      have r1 := hr1.run hb3
      have r2 := hr2.run hb3
      have hq1 := hqs.out.1 (by omega)
      cases q2 with
      | false =>
        go_wp2
        go_ret
        exact ⟨ret_int (chk5_form (by rw [HF.out]; simp)).symm, below_run hbel hb3⟩
      | true =>
        go_wp2
        go_roundw
        case rel => exact ⟨2, by omega, by go_num, by simp [Hid, hq1], r1, r2, below_run hbel hb3⟩
        case measure => simp [intOf]
    · have hq1 := hqs.out.1 (by omega)
      have hq2 := hqs.out.2.1 (by omega)
      go_wp2_with fail
      refine (H3.out _ _ _ hr1 (H0.out hq1)).mono ?_
      rintro e w3 ⟨rfl, hb3⟩
      have r1 := hr1.run hb3
      have r2 := hr2.run hb3
      cases q3 with
      | false =>
        go_wp2
        go_ret
        exact ⟨ret_int (chk5_form (by rw [HF.out]; simp)).symm, below_run hbel hb3⟩
      | true =>
        go_wp2
        go_roundw
        case rel => exact ⟨3, by omega, by go_num, by simp [Hid, hq1, hq2], r1, r2, below_run hbel hb3⟩
        case measure => simp [intOf]
    · have hq1 := hqs.out.1 (by omega)
      have hq2 := hqs.out.2.1 (by omega)
      have hq3 := hqs.out.2.2 (by omega)
      have hfine := chk5_fine (l := s.data.toList) (by rw [HF.out, hq1, hq2, hq3]; rfl)
      have HFI := Lib.hid hfine
      clear hfine hq1 hq2 hq3
      go_wp2
      all_goals go_ret
      all_goals
        refine ⟨ret_int ?_, by (repeat' (first | (with_reducible exact Below.refl _ _) | (with_reducible assumption) | (with_reducible refine below_drewN ?_ _) | (with_reducible refine Below.drew ?_) | (with_reducible refine Below.setCell ?_ ?_ _) | (with_reducible refine Below.alloc ?_ ?_ _) | (with_reducible refine below_after ?_ ?_ (by assumption)) | (show _ ≤ _; first | omega | (simp; done) | (simp; omega))))⟩
        obtain ⟨l1, l2, l3⟩ := HL.out
        rw [HFI.out, ← l1, ← l2]
        simp_all
        try omega
end Go.Proofs.YtndkpdiacabjgaaGreatDoor
