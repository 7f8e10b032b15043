/-
  Right cues: both sides.
-/
import Derived.Test.YtjeigphhepngmaaGreatDoorYo
import Derived.Test.YtjeigphhepngmaaGreatDoorF5
namespace Go.Proofs.YtjeigphhepngmaaGreatDoor
open Go.RowKit

theorem emp_of {s : ByteArray} (h : s.size = 0) : s = ⟨#[]⟩ := by
  apply ByteArray.ext
  have : s.data.size = 0 := h
  exact Array.eq_empty_of_size_eq_zero this
theorem ne_emp {s : ByteArray} (h : ¬ s.size = 0) : s.toList.isEmpty = false := by
  rw [Lib.toList_data]
  cases hh : s.data.toList with
  | nil =>
    have : s.data.toList.length = s.size := by simp
    rw [hh] at this
    simp at this
    omega
  | cons a l => rfl
/-- What is said of the link and the loops. -/
def linkE (li : ByteArray) (lo : Int) : Int := if li.size ≠ 0 ∧ chk5 li.data.toList ≠ 0 then chk5 li.data.toList else if lo < 0 ∨ 100 < lo then 2 else if 0 < lo ∧ li.size = 0 then 11 else 0
theorem linkE_emp {li : ByteArray} (he : li.size = 0) (lo : Int) : linkE li lo = if lo < 0 ∨ 100 < lo then 2 else if 0 < lo then 11 else 0 := by
  unfold linkE
  rw [if_neg (fun h => h.1 he)]
  split
  · rfl
  · by_cases hl : 0 < lo
    · rw [if_pos ⟨hl, he⟩, if_pos hl]
    · rw [if_neg (fun h => hl h.1), if_neg hl]
theorem nextE_is (c : CueD) : nextE c = if c.follow ≠ -1 ∧ (c.follow < 25 ∨ 10000000 < c.follow) then 2 else linkE c.link c.loops := rfl

set_option maxHeartbeats 1000000 in
set_option maxRecDepth 100000 in
theorem cnext_any (c : CueD) (v1 v2 : Value) (w : World) (hl : c.link.size ≤ 9223372036854775806) :
    Calls Tryz.prog 159 #[.agg #[.string c.num, .string c.lab, v1, v2, .bool c.block, .bool c.mark, .int .i64 c.follow, .string c.link, .int .i64 c.loops]] w fun e w' => e = .returned (.int .i64 (nextE c)) ∧ Below w.heap.size w w' := by
  have hN := nextE_is c
  obtain ⟨nu, la, ms, ps, bl, mk, fo, li, lo⟩ := c
  simp only at hN hl ⊢
  by_cases h1 : fo ≠ -1 ∧ (fo < 25 ∨ 10000000 < fo)
  · rw [if_pos h1] at hN
    rw [hN]
    have h2 : (fo != -1) = true := by simpa using h1.1
    clear hN
    by_cases h3 : fo < 25
    · clear h1
      go_enter Tryz.func159, Tryz.ntmps159
      go_wp2
      go_ret
      exact ⟨rfl, by (repeat' (first | (with_reducible exact Below.refl _ _) | (with_reducible assumption) | (with_reducible refine below_run ?_ (by assumption)) | (with_reducible refine below_of_upd ?_ (by assumption) ?_) | (with_reducible refine below_drewN ?_ _) | (with_reducible refine Below.drew ?_) | (with_reducible refine below_seven ?_ ?_) | (with_reducible refine below_six ?_ ?_) | (with_reducible refine below_one ?_ ?_) | (with_reducible refine Below.alloc ?_ ?_ _) | (with_reducible refine below_after ?_ ?_ (by assumption)) | (show _ ≤ _; first | omega | (simp; done) | (simp; omega))))⟩
    · have h4 : 10000000 < fo := by omega
      clear h1
      go_enter Tryz.func159, Tryz.ntmps159
      go_wp2
      go_ret
      exact ⟨rfl, by (repeat' (first | (with_reducible exact Below.refl _ _) | (with_reducible assumption) | (with_reducible refine below_run ?_ (by assumption)) | (with_reducible refine below_of_upd ?_ (by assumption) ?_) | (with_reducible refine below_drewN ?_ _) | (with_reducible refine Below.drew ?_) | (with_reducible refine below_seven ?_ ?_) | (with_reducible refine below_six ?_ ?_) | (with_reducible refine below_one ?_ ?_) | (with_reducible refine Below.alloc ?_ ?_ _) | (with_reducible refine below_after ?_ ?_ (by assumption)) | (show _ ≤ _; first | omega | (simp; done) | (simp; omega))))⟩
  · rw [if_neg h1] at hN
    have hcase : fo = -1 ∨ (¬ fo < 25 ∧ ¬ 10000000 < fo) := by omega
    have HN := Lib.hid hN
    clear hN h1
    by_cases he : li.size = 0
    · obtain rfl := emp_of he
      have hz := linkE_emp he lo
      have HZ := Lib.hid hz
      clear hz he
      rcases hcase with rfl | ⟨f1, f2⟩
      all_goals
        go_enter Tryz.func159, Tryz.ntmps159
        go_wp2
        all_goals go_ret
        all_goals exact ⟨ret_int (by rw [HN.out, HZ.out]; grind), by (repeat' (first | (with_reducible exact Below.refl _ _) | (with_reducible assumption) | (with_reducible refine below_run ?_ (by assumption)) | (with_reducible refine below_of_upd ?_ (by assumption) ?_) | (with_reducible refine below_drewN ?_ _) | (with_reducible refine Below.drew ?_) | (with_reducible refine below_seven ?_ ?_) | (with_reducible refine below_six ?_ ?_) | (with_reducible refine below_one ?_ ?_) | (with_reducible refine Below.alloc ?_ ?_ _) | (with_reducible refine below_after ?_ ?_ (by assumption)) | (show _ ≤ _; first | omega | (simp; done) | (simp; omega))))⟩
    · have he2 := ne_emp he
      obtain ⟨r, hr⟩ : ∃ r, chk5 li.data.toList = r := ⟨_, rfl⟩
      have C := fun W => check5_any li W hl
      rw [hr] at C
      have HC := Lib.hid C
      have hz : linkE li lo = if r ≠ 0 then r else if lo < 0 ∨ 100 < lo then 2 else 0 := by simp only [linkE, hr]; simp [he]
      have HZ := Lib.hid hz
      clear C hr hz he
      by_cases hr0 : r = 0
      · subst hr0
        rcases hcase with rfl | ⟨f1, f2⟩
        · go_enter Tryz.func159, Tryz.ntmps159
          go_wp2_with fail
          refine (HC.out _).mono ?_
          rintro e w1 ⟨rfl, hb⟩
          have hr : RowAt w1 w.heap.size 64 #[.string nu, .string la, v1, v2, .bool bl, .bool mk, .int .i64 (-1), .string li, .int .i64 lo] := (by (repeat' (first | (with_reducible assumption) | (with_reducible refine RowAt.drewN ?_ _) | (with_reducible refine RowAt.drew ?_) | (with_reducible apply RowAt.six) | (with_reducible apply RowAt.seven) | ((with_reducible refine RowAt.mk ?_ ?_); (focus (first | rfl | (simp; done))); rfl) | (with_reducible refine RowAt.alloc ?_ _) | (with_reducible refine RowAt.far ?_ ?_) | (with_reducible refine RowAt.run ?_ (by assumption)) | (with_reducible refine RowAt.below ?_ (by assumption) ?_) | (with_reducible refine RowAt.upd ?_ (by assumption) ?_) | (show _ < _; first | omega | (simp; done) | (simp; omega)) | (show ¬ _ = _; first | omega | (simp; done) | (simp; omega)) | exact rfl))); obtain ⟨hra, hrb, hrc, hrd, hre, hrf⟩ := row_facts hr
          go_wp2
          all_goals go_ret
          all_goals exact ⟨ret_int (by rw [HN.out, HZ.out]; grind), by (repeat' (first | (with_reducible exact Below.refl _ _) | (with_reducible assumption) | (with_reducible refine below_run ?_ (by assumption)) | (with_reducible refine below_of_upd ?_ (by assumption) ?_) | (with_reducible refine below_drewN ?_ _) | (with_reducible refine Below.drew ?_) | (with_reducible refine below_seven ?_ ?_) | (with_reducible refine below_six ?_ ?_) | (with_reducible refine below_one ?_ ?_) | (with_reducible refine Below.alloc ?_ ?_ _) | (with_reducible refine below_after ?_ ?_ (by assumption)) | (show _ ≤ _; first | omega | (simp; done) | (simp; omega))))⟩
        · go_enter Tryz.func159, Tryz.ntmps159
          go_wp2_with fail
          refine (HC.out _).mono ?_
          rintro e w1 ⟨rfl, hb⟩
          have hr : RowAt w1 w.heap.size 64 #[.string nu, .string la, v1, v2, .bool bl, .bool mk, .int .i64 fo, .string li, .int .i64 lo] := (by (repeat' (first | (with_reducible assumption) | (with_reducible refine RowAt.drewN ?_ _) | (with_reducible refine RowAt.drew ?_) | (with_reducible apply RowAt.six) | (with_reducible apply RowAt.seven) | ((with_reducible refine RowAt.mk ?_ ?_); (focus (first | rfl | (simp; done))); rfl) | (with_reducible refine RowAt.alloc ?_ _) | (with_reducible refine RowAt.far ?_ ?_) | (with_reducible refine RowAt.run ?_ (by assumption)) | (with_reducible refine RowAt.below ?_ (by assumption) ?_) | (with_reducible refine RowAt.upd ?_ (by assumption) ?_) | (show _ < _; first | omega | (simp; done) | (simp; omega)) | (show ¬ _ = _; first | omega | (simp; done) | (simp; omega)) | exact rfl))); obtain ⟨hra, hrb, hrc, hrd, hre, hrf⟩ := row_facts hr
          go_wp2
          all_goals go_ret
          all_goals exact ⟨ret_int (by rw [HN.out, HZ.out]; grind), by (repeat' (first | (with_reducible exact Below.refl _ _) | (with_reducible assumption) | (with_reducible refine below_run ?_ (by assumption)) | (with_reducible refine below_of_upd ?_ (by assumption) ?_) | (with_reducible refine below_drewN ?_ _) | (with_reducible refine Below.drew ?_) | (with_reducible refine below_seven ?_ ?_) | (with_reducible refine below_six ?_ ?_) | (with_reducible refine below_one ?_ ?_) | (with_reducible refine Below.alloc ?_ ?_ _) | (with_reducible refine below_after ?_ ?_ (by assumption)) | (show _ ≤ _; first | omega | (simp; done) | (simp; omega))))⟩
      · have hr1 : (r != 0) = true := by simpa using hr0
        rcases hcase with rfl | ⟨f1, f2⟩
        all_goals
          go_enter Tryz.func159, Tryz.ntmps159
          go_wp2_with fail
          refine (HC.out _).mono ?_
          rintro e w1 ⟨rfl, hb⟩
          go_wp2
          go_ret
          exact ⟨ret_int (by rw [HN.out, HZ.out, if_pos hr0]), by (repeat' (first | (with_reducible exact Below.refl _ _) | (with_reducible assumption) | (with_reducible refine below_run ?_ (by assumption)) | (with_reducible refine below_of_upd ?_ (by assumption) ?_) | (with_reducible refine below_drewN ?_ _) | (with_reducible refine Below.drew ?_) | (with_reducible refine below_seven ?_ ?_) | (with_reducible refine below_six ?_ ?_) | (with_reducible refine below_one ?_ ?_) | (with_reducible refine Below.alloc ?_ ?_ _) | (with_reducible refine below_after ?_ ?_ (by assumption)) | (show _ ≤ _; first | omega | (simp; done) | (simp; omega))))⟩

set_option maxHeartbeats 1000000 in
set_option maxRecDepth 100000 in
theorem rnext_any (c : CueD) (v1 v2 : Value) (w : World) (hl : c.link.size ≤ 9223372036854775806) :
    Calls Tryz.prog 170 #[.agg #[.string c.num, .string c.lab, v1, v2, .bool c.block, .bool c.mark, .int .i64 c.follow, .string c.link, .int .i64 c.loops]] w fun e w' => e = .returned (.int .i64 (nextE c)) ∧ Below w.heap.size w w' := by
  have hN := nextE_is c
  obtain ⟨nu, la, ms, ps, bl, mk, fo, li, lo⟩ := c
  simp only at hN hl ⊢
  by_cases h1 : fo ≠ -1 ∧ (fo < 25 ∨ 10000000 < fo)
  · rw [if_pos h1] at hN
    rw [hN]
    have h2 : (fo != -1) = true := by simpa using h1.1
    clear hN
    by_cases h3 : fo < 25
    · clear h1
      go_enter Tryz.func170, Tryz.ntmps170
      go_wp2
      go_ret
      exact ⟨rfl, by (repeat' (first | (with_reducible exact Below.refl _ _) | (with_reducible assumption) | (with_reducible refine below_run ?_ (by assumption)) | (with_reducible refine below_of_upd ?_ (by assumption) ?_) | (with_reducible refine below_drewN ?_ _) | (with_reducible refine Below.drew ?_) | (with_reducible refine below_seven ?_ ?_) | (with_reducible refine below_six ?_ ?_) | (with_reducible refine below_one ?_ ?_) | (with_reducible refine Below.alloc ?_ ?_ _) | (with_reducible refine below_after ?_ ?_ (by assumption)) | (show _ ≤ _; first | omega | (simp; done) | (simp; omega))))⟩
    · have h4 : 10000000 < fo := by omega
      clear h1
      go_enter Tryz.func170, Tryz.ntmps170
      go_wp2
      go_ret
      exact ⟨rfl, by (repeat' (first | (with_reducible exact Below.refl _ _) | (with_reducible assumption) | (with_reducible refine below_run ?_ (by assumption)) | (with_reducible refine below_of_upd ?_ (by assumption) ?_) | (with_reducible refine below_drewN ?_ _) | (with_reducible refine Below.drew ?_) | (with_reducible refine below_seven ?_ ?_) | (with_reducible refine below_six ?_ ?_) | (with_reducible refine below_one ?_ ?_) | (with_reducible refine Below.alloc ?_ ?_ _) | (with_reducible refine below_after ?_ ?_ (by assumption)) | (show _ ≤ _; first | omega | (simp; done) | (simp; omega))))⟩
  · rw [if_neg h1] at hN
    have hcase : fo = -1 ∨ (¬ fo < 25 ∧ ¬ 10000000 < fo) := by omega
    have HN := Lib.hid hN
    clear hN h1
    by_cases he : li.size = 0
    · obtain rfl := emp_of he
      have hz := linkE_emp he lo
      have HZ := Lib.hid hz
      clear hz he
      rcases hcase with rfl | ⟨f1, f2⟩
      all_goals
        go_enter Tryz.func170, Tryz.ntmps170
        go_wp2
        all_goals go_ret
        all_goals exact ⟨ret_int (by rw [HN.out, HZ.out]; grind), by (repeat' (first | (with_reducible exact Below.refl _ _) | (with_reducible assumption) | (with_reducible refine below_run ?_ (by assumption)) | (with_reducible refine below_of_upd ?_ (by assumption) ?_) | (with_reducible refine below_drewN ?_ _) | (with_reducible refine Below.drew ?_) | (with_reducible refine below_seven ?_ ?_) | (with_reducible refine below_six ?_ ?_) | (with_reducible refine below_one ?_ ?_) | (with_reducible refine Below.alloc ?_ ?_ _) | (with_reducible refine below_after ?_ ?_ (by assumption)) | (show _ ≤ _; first | omega | (simp; done) | (simp; omega))))⟩
    · have he2 := ne_emp he
      obtain ⟨r, hr⟩ : ∃ r, chk5 li.data.toList = r := ⟨_, rfl⟩
      have C := fun W => rcheck5_any li W hl
      rw [hr] at C
      have HC := Lib.hid C
      have hz : linkE li lo = if r ≠ 0 then r else if lo < 0 ∨ 100 < lo then 2 else 0 := by simp only [linkE, hr]; simp [he]
      have HZ := Lib.hid hz
      clear C hr hz he
      by_cases hr0 : r = 0
      · subst hr0
        rcases hcase with rfl | ⟨f1, f2⟩
        · go_enter Tryz.func170, Tryz.ntmps170
          go_wp2_with fail
          refine (HC.out _).mono ?_
          rintro e w1 ⟨rfl, hb⟩
          have hr : RowAt w1 w.heap.size 64 #[.string nu, .string la, v1, v2, .bool bl, .bool mk, .int .i64 (-1), .string li, .int .i64 lo] := (by (repeat' (first | (with_reducible assumption) | (with_reducible refine RowAt.drewN ?_ _) | (with_reducible refine RowAt.drew ?_) | (with_reducible apply RowAt.six) | (with_reducible apply RowAt.seven) | ((with_reducible refine RowAt.mk ?_ ?_); (focus (first | rfl | (simp; done))); rfl) | (with_reducible refine RowAt.alloc ?_ _) | (with_reducible refine RowAt.far ?_ ?_) | (with_reducible refine RowAt.run ?_ (by assumption)) | (with_reducible refine RowAt.below ?_ (by assumption) ?_) | (with_reducible refine RowAt.upd ?_ (by assumption) ?_) | (show _ < _; first | omega | (simp; done) | (simp; omega)) | (show ¬ _ = _; first | omega | (simp; done) | (simp; omega)) | exact rfl))); obtain ⟨hra, hrb, hrc, hrd, hre, hrf⟩ := row_facts hr
          go_wp2
          all_goals go_ret
          all_goals exact ⟨ret_int (by rw [HN.out, HZ.out]; grind), by (repeat' (first | (with_reducible exact Below.refl _ _) | (with_reducible assumption) | (with_reducible refine below_run ?_ (by assumption)) | (with_reducible refine below_of_upd ?_ (by assumption) ?_) | (with_reducible refine below_drewN ?_ _) | (with_reducible refine Below.drew ?_) | (with_reducible refine below_seven ?_ ?_) | (with_reducible refine below_six ?_ ?_) | (with_reducible refine below_one ?_ ?_) | (with_reducible refine Below.alloc ?_ ?_ _) | (with_reducible refine below_after ?_ ?_ (by assumption)) | (show _ ≤ _; first | omega | (simp; done) | (simp; omega))))⟩
        · go_enter Tryz.func170, Tryz.ntmps170
          go_wp2_with fail
          refine (HC.out _).mono ?_
          rintro e w1 ⟨rfl, hb⟩
          have hr : RowAt w1 w.heap.size 64 #[.string nu, .string la, v1, v2, .bool bl, .bool mk, .int .i64 fo, .string li, .int .i64 lo] := (by (repeat' (first | (with_reducible assumption) | (with_reducible refine RowAt.drewN ?_ _) | (with_reducible refine RowAt.drew ?_) | (with_reducible apply RowAt.six) | (with_reducible apply RowAt.seven) | ((with_reducible refine RowAt.mk ?_ ?_); (focus (first | rfl | (simp; done))); rfl) | (with_reducible refine RowAt.alloc ?_ _) | (with_reducible refine RowAt.far ?_ ?_) | (with_reducible refine RowAt.run ?_ (by assumption)) | (with_reducible refine RowAt.below ?_ (by assumption) ?_) | (with_reducible refine RowAt.upd ?_ (by assumption) ?_) | (show _ < _; first | omega | (simp; done) | (simp; omega)) | (show ¬ _ = _; first | omega | (simp; done) | (simp; omega)) | exact rfl))); obtain ⟨hra, hrb, hrc, hrd, hre, hrf⟩ := row_facts hr
          go_wp2
          all_goals go_ret
          all_goals exact ⟨ret_int (by rw [HN.out, HZ.out]; grind), by (repeat' (first | (with_reducible exact Below.refl _ _) | (with_reducible assumption) | (with_reducible refine below_run ?_ (by assumption)) | (with_reducible refine below_of_upd ?_ (by assumption) ?_) | (with_reducible refine below_drewN ?_ _) | (with_reducible refine Below.drew ?_) | (with_reducible refine below_seven ?_ ?_) | (with_reducible refine below_six ?_ ?_) | (with_reducible refine below_one ?_ ?_) | (with_reducible refine Below.alloc ?_ ?_ _) | (with_reducible refine below_after ?_ ?_ (by assumption)) | (show _ ≤ _; first | omega | (simp; done) | (simp; omega))))⟩
      · have hr1 : (r != 0) = true := by simpa using hr0
        rcases hcase with rfl | ⟨f1, f2⟩
        all_goals
          go_enter Tryz.func170, Tryz.ntmps170
          go_wp2_with fail
          refine (HC.out _).mono ?_
          rintro e w1 ⟨rfl, hb⟩
          go_wp2
          go_ret
          exact ⟨ret_int (by rw [HN.out, HZ.out, if_pos hr0]), by (repeat' (first | (with_reducible exact Below.refl _ _) | (with_reducible assumption) | (with_reducible refine below_run ?_ (by assumption)) | (with_reducible refine below_of_upd ?_ (by assumption) ?_) | (with_reducible refine below_drewN ?_ _) | (with_reducible refine Below.drew ?_) | (with_reducible refine below_seven ?_ ?_) | (with_reducible refine below_six ?_ ?_) | (with_reducible refine below_one ?_ ?_) | (with_reducible refine Below.alloc ?_ ?_ _) | (with_reducible refine below_after ?_ ?_ (by assumption)) | (show _ ≤ _; first | omega | (simp; done) | (simp; omega))))⟩

/-! ### The program's five checks -/
theorem cueE_is (c : CueD) : cueE c = if chk5 c.num.data.toList ≠ 0 then chk5 c.num.data.toList else if labE c.lab ≠ 0 then labE c.lab else if movesE c.moves ≠ 0 then movesE c.moves else if partsE c ≠ 0 then partsE c else nextE c := by
  unfold cueE partsE
  have hb : (c.moves.any fun m => decide ((c.parts.length : Int) < m.part)) = c.moves.any (beyondM c.parts.length) := rfl
  rw [hb]
  split
  · rfl
  · split
    · rfl
    · split
      · rfl
      · by_cases h : ptsE c.parts = 0
        · simp only [h, ne_eq, not_true_eq_false, if_false]
          split <;> simp
        · simp [h]

set_option maxHeartbeats 1000000 in
set_option maxRecDepth 100000 in
theorem ccheck1_any (c : CueD) (v1 v2 : Value) (w : World) (hn : c.num.size ≤ 9223372036854775806) :
    Calls Tryz.prog 152 #[.agg #[.string c.num, .string c.lab, v1, v2, .bool c.block, .bool c.mark, .int .i64 c.follow, .string c.link, .int .i64 c.loops]] w fun e w' => e = .returned (.int .i64 (chk5 c.num.data.toList)) ∧ Below w.heap.size w w' := by
  have C := Lib.hid (fun (W : World) (hb : Below w.heap.size w W) => check5_any c.num W hn)
  clear hn
  go_enter Tryz.func152, Tryz.ntmps152
  go_wp2_with fail
  refine (C.out _ (by (repeat' (first | (with_reducible exact Below.refl _ _) | (with_reducible assumption) | (with_reducible refine below_run ?_ (by assumption)) | (with_reducible refine below_of_upd ?_ (by assumption) ?_) | (with_reducible refine below_drewN ?_ _) | (with_reducible refine Below.drew ?_) | (with_reducible refine below_seven ?_ ?_) | (with_reducible refine below_six ?_ ?_) | (with_reducible refine below_one ?_ ?_) | (with_reducible refine Below.alloc ?_ ?_ _) | (with_reducible refine below_after ?_ ?_ (by assumption)) | (show _ ≤ _; first | omega | (simp; done) | (simp; omega)))))).mono ?_
  rintro e w1 ⟨rfl, hb⟩
  go_wp2
  go_ret
  exact ⟨rfl, by (repeat' (first | (with_reducible exact Below.refl _ _) | (with_reducible assumption) | (with_reducible refine below_run ?_ (by assumption)) | (with_reducible refine below_of_upd ?_ (by assumption) ?_) | (with_reducible refine below_drewN ?_ _) | (with_reducible refine Below.drew ?_) | (with_reducible refine below_seven ?_ ?_) | (with_reducible refine below_six ?_ ?_) | (with_reducible refine below_one ?_ ?_) | (with_reducible refine Below.alloc ?_ ?_ _) | (with_reducible refine below_after ?_ ?_ (by assumption)) | (show _ ≤ _; first | omega | (simp; done) | (simp; omega))))⟩

set_option maxHeartbeats 1000000 in
set_option maxRecDepth 100000 in
theorem ccheck2_any (c : CueD) (v1 v2 : Value) (w : World) (hl : c.lab.size ≤ 9223372036854775807) :
    Calls Tryz.prog 154 #[.agg #[.string c.num, .string c.lab, v1, v2, .bool c.block, .bool c.mark, .int .i64 c.follow, .string c.link, .int .i64 c.loops]] w fun e w' => e = .returned (.int .i64 (labE c.lab)) ∧ Below w.heap.size w w' := by
  have C := Lib.hid (fun (W : World) (hb : Below w.heap.size w W) => clabel_any c.lab W hl)
  clear hl
  go_enter Tryz.func154, Tryz.ntmps154
  go_wp2_with fail
  refine (C.out _ (by (repeat' (first | (with_reducible exact Below.refl _ _) | (with_reducible assumption) | (with_reducible refine below_run ?_ (by assumption)) | (with_reducible refine below_of_upd ?_ (by assumption) ?_) | (with_reducible refine below_drewN ?_ _) | (with_reducible refine Below.drew ?_) | (with_reducible refine below_seven ?_ ?_) | (with_reducible refine below_six ?_ ?_) | (with_reducible refine below_one ?_ ?_) | (with_reducible refine Below.alloc ?_ ?_ _) | (with_reducible refine below_after ?_ ?_ (by assumption)) | (show _ ≤ _; first | omega | (simp; done) | (simp; omega)))))).mono ?_
  rintro e w1 ⟨rfl, hb⟩
  go_wp2
  go_ret
  exact ⟨rfl, by (repeat' (first | (with_reducible exact Below.refl _ _) | (with_reducible assumption) | (with_reducible refine below_run ?_ (by assumption)) | (with_reducible refine below_of_upd ?_ (by assumption) ?_) | (with_reducible refine below_drewN ?_ _) | (with_reducible refine Below.drew ?_) | (with_reducible refine below_seven ?_ ?_) | (with_reducible refine below_six ?_ ?_) | (with_reducible refine below_one ?_ ?_) | (with_reducible refine Below.alloc ?_ ?_ _) | (with_reducible refine below_after ?_ ?_ (by assumption)) | (show _ ≤ _; first | omega | (simp; done) | (simp; omega))))⟩

set_option maxHeartbeats 1000000 in
set_option maxRecDepth 100000 in
theorem ccheck3_any (c : CueD) (v1 v2 : Value) (w : World) (hm : ListAt 5 mvA w v1 c.moves) (hcap : CapOk v1) :
    Calls Tryz.prog 156 #[.agg #[.string c.num, .string c.lab, v1, v2, .bool c.block, .bool c.mark, .int .i64 c.follow, .string c.link, .int .i64 c.loops]] w fun e w' => e = .returned (.int .i64 (movesE c.moves)) ∧ Below w.heap.size w w' := by
  have C := Lib.hid (fun (W : World) (hb : Below w.heap.size w W) => cmoves_any v1 c.moves W (hm.run hb) hcap)
  clear hm hcap
  go_enter Tryz.func156, Tryz.ntmps156
  go_wp2_with fail
  refine (C.out _ (by (repeat' (first | (with_reducible exact Below.refl _ _) | (with_reducible assumption) | (with_reducible refine below_run ?_ (by assumption)) | (with_reducible refine below_of_upd ?_ (by assumption) ?_) | (with_reducible refine below_drewN ?_ _) | (with_reducible refine Below.drew ?_) | (with_reducible refine below_seven ?_ ?_) | (with_reducible refine below_six ?_ ?_) | (with_reducible refine below_one ?_ ?_) | (with_reducible refine Below.alloc ?_ ?_ _) | (with_reducible refine below_after ?_ ?_ (by assumption)) | (show _ ≤ _; first | omega | (simp; done) | (simp; omega)))))).mono ?_
  rintro e w1 ⟨rfl, hb⟩
  go_wp2
  go_ret
  exact ⟨rfl, by (repeat' (first | (with_reducible exact Below.refl _ _) | (with_reducible assumption) | (with_reducible refine below_run ?_ (by assumption)) | (with_reducible refine below_of_upd ?_ (by assumption) ?_) | (with_reducible refine below_drewN ?_ _) | (with_reducible refine Below.drew ?_) | (with_reducible refine below_seven ?_ ?_) | (with_reducible refine below_six ?_ ?_) | (with_reducible refine below_one ?_ ?_) | (with_reducible refine Below.alloc ?_ ?_ _) | (with_reducible refine below_after ?_ ?_ (by assumption)) | (show _ ≤ _; first | omega | (simp; done) | (simp; omega))))⟩

def chkFns : Array Value := #[.func (.func 152) #[] #[], .func (.func 154) #[] #[], .func (.func 156) #[] #[], .func (.func 158) #[] #[], .func (.func 159) #[] #[]]
/-- The five errors, in order. -/
def fiveE (c : CueD) (k : Nat) : Int := if k = 0 then chk5 c.num.data.toList else if k = 1 then labE c.lab else if k = 2 then movesE c.moves else if k = 3 then partsE c else nextE c
theorem cueE_five (c : CueD) : cueE c = firstE (fiveE c) 0 (5 - 0) := by
  rw [cueE_is]
  have hx : (if nextE c ≠ 0 then nextE c else 0) = nextE c := by split <;> omega
  show _ = (if chk5 c.num.data.toList ≠ 0 then chk5 c.num.data.toList else if labE c.lab ≠ 0 then labE c.lab else if movesE c.moves ≠ 0 then movesE c.moves else if partsE c ≠ 0 then partsE c else if nextE c ≠ 0 then nextE c else 0)
  rw [hx]

set_option maxHeartbeats 4000000 in
set_option maxRecDepth 100000 in
theorem ccheck_any (c : CueD) (v1 v2 : Value) (w : World) (h : CueAt w v1 v2 c) (hcap : CapOk v1) (hn : c.num.size ≤ 9223372036854775806) (hl : c.lab.size ≤ 9223372036854775807) (hk : c.link.size ≤ 9223372036854775806) :
    Calls Tryz.prog 68 #[.agg #[.string c.num, .string c.lab, v1, v2, .bool c.block, .bool c.mark, .int .i64 c.follow, .string c.link, .int .i64 c.loops]] w fun e w' => e = .returned (.int .i64 (cueE c)) ∧ Below w.heap.size w w' := by
  have HF := Lib.hid (cueE_five c)
  have F0 := Lib.hid (fun (W : World) (_ : Below w.heap.size w W) => ccheck1_any c v1 v2 W hn)
  have F1 := Lib.hid (fun (W : World) (_ : Below w.heap.size w W) => ccheck2_any c v1 v2 W hl)
  have F2 := Lib.hid (fun (W : World) (hb : Below w.heap.size w W) => ccheck3_any c v1 v2 W (h.moves.run hb) hcap)
  have F3 := Lib.hid (fun (W : World) (hb : Below w.heap.size w W) => cparts_any c v1 v2 W (h.run hb))
  have F4 := Lib.hid (fun (W : World) (_ : Below w.heap.size w W) => cnext_any c v1 v2 W hk)
  obtain ⟨q0, hq0⟩ : ∃ q, fiveE c 0 = q := ⟨_, rfl⟩
  obtain ⟨q1, hq1⟩ : ∃ q, fiveE c 1 = q := ⟨_, rfl⟩
  obtain ⟨q2, hq2⟩ : ∃ q, fiveE c 2 = q := ⟨_, rfl⟩
  obtain ⟨q3, hq3⟩ : ∃ q, fiveE c 3 = q := ⟨_, rfl⟩
  obtain ⟨q4, hq4⟩ : ∃ q, fiveE c 4 = q := ⟨_, rfl⟩
  rw [show chk5 c.num.data.toList = q0 from hq0] at F0
  rw [show labE c.lab = q1 from hq1] at F1
  rw [show movesE c.moves = q2 from hq2] at F2
  rw [show partsE c = q3 from hq3] at F3
  rw [show nextE c = q4 from hq4] at F4
  have Q0 := Lib.hid hq0
  have Q1 := Lib.hid hq1
  have Q2 := Lib.hid hq2
  have Q3 := Lib.hid hq3
  have Q4 := Lib.hid hq4
  clear hq0 hq1 hq2 hq3 hq4 h hcap hn hl hk
  go_enter Tryz.func68, Tryz.ntmps68
  go_wp2
  go_loopw [4, 5, 8] (fun _ _ i wr => ∃ k : Nat, k ≤ 5 ∧ i = .int .i64 k ∧ Hid (cueE c = firstE (fiveE c) k (5 - k)) ∧ RowAt wr w.heap.size 64 #[.string c.num, .string c.lab, v1, v2, .bool c.block, .bool c.mark, .int .i64 c.follow, .string c.link, .int .i64 c.loops] ∧ RowAt wr (w.heap.size + 1) 129 chkFns ∧ Below w.heap.size w wr) (fun _ _ i _ => 5 - (intOf i).toNat)
  case atStart => exact ⟨0, by omega, rfl, HF, RowAt.alloc (RowAt.new _ _ _) _, RowAt.mk (by simp) rfl, by (repeat' (first | (with_reducible exact Below.refl _ _) | (with_reducible assumption) | (with_reducible refine below_run ?_ (by assumption)) | (with_reducible refine below_of_upd ?_ (by assumption) ?_) | (with_reducible refine below_drewN ?_ _) | (with_reducible refine Below.drew ?_) | (with_reducible refine below_seven ?_ ?_) | (with_reducible refine below_six ?_ ?_) | (with_reducible refine below_one ?_ ?_) | (with_reducible refine Below.alloc ?_ ?_ _) | (with_reducible refine below_after ?_ ?_ (by assumption)) | (show _ ≤ _; first | omega | (simp; done) | (simp; omega))))⟩
  case round =>
    obtain ⟨k, hk, rfl, hf, hr1, hr2, hbel⟩ := hrel
    obtain ⟨a1, a2, a3, a4, a5, a6⟩ := row_facts hr1
    obtain ⟨b1, b2, b3, b4, b5, b6⟩ := row_facts hr2
    simp only [chkFns] at b1
    have hk5 : k = 0 ∨ k = 1 ∨ k = 2 ∨ k = 3 ∨ k = 4 ∨ k = 5 := by omega
    rcases hk5 with rfl | rfl | rfl | rfl | rfl | rfl
    · go_wp2_with fail
      refine (F0.out _ hbel).mono ?_
      rintro e w3 ⟨rfl, hb3⟩
      have r1 := hr1.run hb3
      have r2 := hr2.run hb3
      have HB := Lib.hid (below_run hbel hb3)
      clear hb3
      by_cases hq : q0 = 0
      · subst hq
        go_wp2
        go_roundw
        case rel => exact ⟨1, by omega, by go_num, Lib.hid (hf.out.trans (firstE_go (by omega) Q0.out)), r1, r2, HB.out⟩
        case measure => simp [intOf]
      · have hq2 : (q0 != 0) = true := by simpa using hq
        go_wp2
        go_ret
        exact ⟨ret_int (by rw [hf.out, firstE_stop (by omega) (by rw [Q0.out]; exact hq), Q0.out]), HB.out⟩
    · go_wp2_with fail
      refine (F1.out _ hbel).mono ?_
      rintro e w3 ⟨rfl, hb3⟩
      have r1 := hr1.run hb3
      have r2 := hr2.run hb3
      have HB := Lib.hid (below_run hbel hb3)
      clear hb3
      by_cases hq : q1 = 0
      · subst hq
        go_wp2
        go_roundw
        case rel => exact ⟨2, by omega, by go_num, Lib.hid (hf.out.trans (firstE_go (by omega) Q1.out)), r1, r2, HB.out⟩
        case measure => simp [intOf]
      · have hq2 : (q1 != 0) = true := by simpa using hq
        go_wp2
        go_ret
        exact ⟨ret_int (by rw [hf.out, firstE_stop (by omega) (by rw [Q1.out]; exact hq), Q1.out]), HB.out⟩
    · go_wp2_with fail
      refine (F2.out _ hbel).mono ?_
      rintro e w3 ⟨rfl, hb3⟩
      have r1 := hr1.run hb3
      have r2 := hr2.run hb3
      have HB := Lib.hid (below_run hbel hb3)
      clear hb3
      by_cases hq : q2 = 0
      · subst hq
        go_wp2
        go_roundw
        case rel => exact ⟨3, by omega, by go_num, Lib.hid (hf.out.trans (firstE_go (by omega) Q2.out)), r1, r2, HB.out⟩
        case measure => simp [intOf]
      · have hq2 : (q2 != 0) = true := by simpa using hq
        go_wp2
        go_ret
        exact ⟨ret_int (by rw [hf.out, firstE_stop (by omega) (by rw [Q2.out]; exact hq), Q2.out]), HB.out⟩
    · go_wp2_with fail
      refine (F3.out _ hbel).mono ?_
      rintro e w3 ⟨rfl, hb3⟩
      have r1 := hr1.run hb3
      have r2 := hr2.run hb3
      have HB := Lib.hid (below_run hbel hb3)
      clear hb3
      by_cases hq : q3 = 0
      · subst hq
        go_wp2
        go_roundw
        case rel => exact ⟨4, by omega, by go_num, Lib.hid (hf.out.trans (firstE_go (by omega) Q3.out)), r1, r2, HB.out⟩
        case measure => simp [intOf]
      · have hq2 : (q3 != 0) = true := by simpa using hq
        go_wp2
        go_ret
        exact ⟨ret_int (by rw [hf.out, firstE_stop (by omega) (by rw [Q3.out]; exact hq), Q3.out]), HB.out⟩
    · go_wp2_with fail
      refine (F4.out _ hbel).mono ?_
      rintro e w3 ⟨rfl, hb3⟩
      have r1 := hr1.run hb3
      have r2 := hr2.run hb3
      have HB := Lib.hid (below_run hbel hb3)
      clear hb3
      by_cases hq : q4 = 0
      · subst hq
        go_wp2
        go_roundw
        case rel => exact ⟨5, by omega, by go_num, Lib.hid (hf.out.trans (firstE_go (by omega) Q4.out)), r1, r2, HB.out⟩
        case measure => simp [intOf]
      · have hq2 : (q4 != 0) = true := by simpa using hq
        go_wp2
        go_ret
        exact ⟨ret_int (by rw [hf.out, firstE_stop (by omega) (by rw [Q4.out]; exact hq), Q4.out]), HB.out⟩
    · go_wp2
      go_ret
      exact ⟨ret_int (by rw [hf.out]; rfl), hbel⟩
end Go.Proofs.YtjeigphhepngmaaGreatDoor
