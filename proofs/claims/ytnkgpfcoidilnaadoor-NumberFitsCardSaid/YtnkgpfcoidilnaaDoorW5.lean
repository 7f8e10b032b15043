/-
  What is between two numbers: plain laws, and the decimals of a text.
-/
import Derived.Test.YtnkgpfcoidilnaaDoorS5
namespace Go.Proofs.YtnkgpfcoidilnaaDoor
open Go.RowKit

/-- How many decimals the number between has: as many as the first unit that fits. -/
theorem fits_decs (x y : Int) (k : Nat) (hk : k < 4) (h0 : 0 ≤ x) (h : ∀ j, j < k → y ≤ nextM x (units j)) (hlt : nextM x (units k) < y) : decs ((nextM x (units k)).toNat % 1000) = k := by
  have h4 : k = 0 ∨ k = 1 ∨ k = 2 ∨ k = 3 := by omega
  unfold nextM decs at *
  rcases h4 with rfl | rfl | rfl | rfl
  · simp only [units] at *
    rw [if_neg (by omega), if_neg (by omega), if_neg (by omega)]
  · have a := h 0 (by omega)
    simp only [units] at *
    rw [if_neg (by omega), if_neg (by omega), if_pos (by omega)]
  · have a := h 0 (by omega)
    have b := h 1 (by omega)
    simp only [units] at *
    rw [if_neg (by omega), if_pos (by omega)]
  · have a := h 0 (by omega)
    have b := h 1 (by omega)
    have c := h 2 (by omega)
    simp only [units] at *
    rw [if_pos (by omega)]

/-- The three ways in which a search between ends. -/
theorem betV_ends (x y : Int) : (∃ k, k < 4 ∧ (∀ j, j < k → y ≤ nextM x (units j)) ∧ nextM x (units k) < y) ∨ (∀ j, j < 4 → y ≤ nextM x (units j)) := by
  by_cases a : nextM x (units 0) < y
  · exact .inl ⟨0, by omega, fun j hj => absurd hj (by omega), a⟩
  · by_cases b : nextM x (units 1) < y
    · exact .inl ⟨1, by omega, fun j hj => by obtain rfl : j = 0 := by omega
                                              omega, b⟩
    · by_cases c : nextM x (units 2) < y
      · refine .inl ⟨2, by omega, fun j hj => ?_, c⟩
        rcases (show j = 0 ∨ j = 1 by omega) with rfl | rfl <;> omega
      · by_cases d : nextM x (units 3) < y
        · refine .inl ⟨3, by omega, fun j hj => ?_, d⟩
          rcases (show j = 0 ∨ j = 1 ∨ j = 2 by omega) with rfl | rfl | rfl <;> omega
        · refine .inr fun j hj => ?_
          rcases (show j = 0 ∨ j = 1 ∨ j = 2 ∨ j = 3 by omega) with rfl | rfl | rfl | rfl <;> omega

theorem rest_of (l : List UInt8) : (restOf l).length = if hasPt l then l.length - (wholeOf l).length - 1 else 0 := by
  rcases cut_pt_idx l with ⟨h1, -, h3⟩ | ⟨h1, -, h3, h4⟩
  · rw [h1, if_pos rfl]
    have := congrArg List.length h3
    simp at this
    omega
  · rw [h1, h4]
    simp

set_option maxHeartbeats 1000000 in
set_option maxRecDepth 100000 in
theorem decimals_any (s : ByteArray) (w : World) (hs : s.size ≤ 1000) :
    Calls Tryd.prog 25 #[.string s] w fun e w' => e = .returned (.int .i64 ((restOf s.data.toList).length : Nat)) ∧ w' = w := by
  have hr := rest_of s.data.toList
  have I := Tryd.strings_IndexByte s 46
  have hx : Lib.indexByte s.data.toList (46 : Int).toNat.toUInt8 = if hasPt s.data.toList then ((wholeOf s.data.toList).length : Int) else -1 := idxByte_pt _
  rw [hx] at I
  have hlen : s.data.toList.length = s.size := by simp
  have hw := (part_len s.data.toList).1
  rw [hlen] at hr hw
  cases hp : hasPt s.data.toList with
  | false =>
    rw [hp] at hr I
    simp only [Bool.false_eq_true, if_false] at hr I
    rw [hr]
    clear hx hp
    go_enter Tryd.func25, Tryd.ntmps25
    go_wp2_with fail
    refine (I _).mono ?_
    rintro e w' ⟨rfl, rfl⟩
    go_wp2
    go_ret
    exact ⟨rfl, rfl⟩
  | true =>
    rw [hp] at hr I
    simp only [if_true] at hr I
    have hlt : (wholeOf s.data.toList).length < s.size := by
      rcases cut_pt_idx s.data.toList with ⟨-, -, h3⟩ | ⟨h1, -⟩
      · have := congrArg List.length h3
        simp at this
        omega
      · rw [hp] at h1; cases h1
    obtain ⟨k, hk⟩ : ∃ k, (wholeOf s.data.toList).length = k := ⟨_, rfl⟩
    rw [hk] at hr I hlt hw
    have hI := Lib.hid I
    obtain ⟨r, hrr⟩ : ∃ r, (restOf s.data.toList).length = r := ⟨_, rfl⟩
    rw [hrr] at hr ⊢
    have e1 : (s.size : Int) - (k : Int) - 1 = (r : Int) := by omega
    obtain ⟨z, hz⟩ : ∃ z : Int, (s.size : Int) - (k : Int) = z := ⟨_, rfl⟩
    rw [hz] at e1
    have hk0 : ¬ (k : Int) < 0 := by omega
    have W1 : Hid (IntKind.i64.wrap z = z) := IntWalk.i64_in _ (by omega)
    have W2 : Hid (IntKind.i64.wrap (r : Int) = r) := IntWalk.i64_in _ (by omega)
    clear hx hp hr hlt hw hk I hrr hlen hs
    go_enter Tryd.func25, Tryd.ntmps25
    go_wp2_with fail
    refine (hI.out _).mono ?_
    rintro e w' ⟨rfl, rfl⟩
    have w1 := W1.out
    have w2 : wrap64 (r : Int) = r := by rw [← IntWalk.i64_left]; exact W2.out
    go_wp2
    go_ret
    exact ⟨ret_int w2, rfl⟩
end Go.Proofs.YtnkgpfcoidilnaaDoor
