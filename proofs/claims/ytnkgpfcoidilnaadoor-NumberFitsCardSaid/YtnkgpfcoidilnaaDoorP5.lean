/-
  The examples of the chapter on numbers.
-/
import Derived.Test.YtnkgpfcoidilnaaDoorN5
import Derived.Test.YtnkgpfcoidilnaaDoorFar
namespace Go.Proofs.YtnkgpfcoidilnaaDoor
open Go.RowKit

theorem dd1 (n : Nat) (h : n < 10) : Lib.decDigits n = decN n 1 := decDigits_decN 0 n (by simp; omega) (.inl rfl)
theorem dd2 (n : Nat) (h : n < 100) (h2 : 10 ≤ n) : Lib.decDigits n = decN n 2 := decDigits_decN 1 n (by simp; omega) (.inr (by simp; omega))
theorem named1 (n : Nat) (h : n < 10000) : named n = decN (n / 1000) 1 ++ (if n % 1000 = 0 then [] else 46 :: Lib.trimRightB (three (n % 1000)) 48) := by rw [named, dd1 _ (by omega)]
theorem named2 (n : Nat) (h : n < 100000) (h2 : 10000 ≤ n) : named n = decN (n / 1000) 2 ++ (if n % 1000 = 0 then [] else 46 :: Lib.trimRightB (three (n % 1000)) 48) := by rw [named, dd2 _ (by omega) (by omega)]

theorem ex_of (n : Nat) (l : List UInt8) (h1 : 1 ≤ n) (h : n < 10000) (hl : decN (n / 1000) 1 ++ (if n % 1000 = 0 then [] else 46 :: Lib.trimRightB (three (n % 1000)) 48) = l) : of5 n = (l, 0) := by
  rw [of5_in (by omega) (by omega), Int.toNat_natCast, named1 n h, hl]
theorem ex_after : aft5 [49, 50, 46, 53] = ([49, 51], 0) := by
  rw [after_in (by decide), show nextM ((val5 [49, 50, 46, 53] : Nat) : Int) 1000 = ((13000 : Nat) : Int) from by decide, of5_in (by decide) (by decide), Int.toNat_natCast, named2 13000 (by decide) (by decide)]
  decide
theorem ex_bet1 : bet5 [49] [50] = ([49, 46, 49], 0) := by
  rw [bet_ab (by decide) (by decide), if_neg (by decide), betV_at _ _ 1 (by decide) (by decide) (by decide), show nextM ((val5 [49] : Nat) : Int) (units 1) = ((1100 : Nat) : Int) from by decide]
  exact ex_of 1100 _ (by decide) (by decide) (by decide)
theorem ex_bet2 : bet5 [49] [51] = ([50], 0) := by
  rw [bet_ab (by decide) (by decide), if_neg (by decide), betV_at _ _ 0 (by decide) (by decide) (by decide), show nextM ((val5 [49] : Nat) : Int) (units 0) = ((2000 : Nat) : Int) from by decide]
  exact ex_of 2000 _ (by decide) (by decide) (by decide)
theorem ex_bet3 : bet5 [49, 46, 57] [50, 46, 49] = ([50], 0) := by
  rw [bet_ab (by decide) (by decide), if_neg (by decide), betV_at _ _ 0 (by decide) (by decide) (by decide), show nextM ((val5 [49, 46, 57] : Nat) : Int) (units 0) = ((2000 : Nat) : Int) from by decide]
  exact ex_of 2000 _ (by decide) (by decide) (by decide)
theorem ex_bet4 : bet5 [49, 46, 57, 56] [50] = ([49, 46, 57, 57], 0) := by
  rw [bet_ab (by decide) (by decide), if_neg (by decide), betV_at _ _ 2 (by decide) (by decide) (by decide), show nextM ((val5 [49, 46, 57, 56] : Nat) : Int) (units 2) = ((1990 : Nat) : Int) from by decide]
  exact ex_of 1990 _ (by decide) (by decide) (by decide)
theorem ex_bet5 : bet5 [49, 46, 48, 48, 49] [49, 46, 48, 48, 50] = ([], 12) := by
  rw [bet_ab (by decide) (by decide), if_neg (by decide), betV_no _ _ (by decide)]

theorem bet5_is (a b : ByteArray) (r : List UInt8) (c : Int) (s : ByteArray) (w : World) (hp : Pow w) (ha : a.size ≤ 9223372036854775806) (hb : b.size ≤ 9223372036854775806) (h : bet5 a.data.toList b.data.toList = (r, c)) (hs : str r = s) :
    Calls Tryd.prog 20 #[.string a, .string b] w fun e w' => e = .returned (.tuple #[.string s, .int .i64 c]) ∧ Below w.heap.size w w' := by
  have := bet5_any a b w ha hb hp
  rw [h] at this
  rw [← hs]
  exact this
theorem aft5_is (a : ByteArray) (r : List UInt8) (c : Int) (s : ByteArray) (w : World) (hp : Pow w) (ha : a.size ≤ 9223372036854775806) (h : aft5 a.data.toList = (r, c)) (hs : str r = s) :
    Calls Tryd.prog 22 #[.string a] w fun e w' => e = .returned (.tuple #[.string s, .int .i64 c]) ∧ Below w.heap.size w w' := by
  have := aft5_any a w ha hp
  rw [h] at this
  rw [← hs]
  exact this
theorem ex_thou (w : World) : Calls Tryd.prog 12 #[.string ⟨#[49, 50, 46, 53]⟩] w fun e w' => e = .returned (.tuple #[.int .i64 12500, .int .i64 0]) ∧ Below w.heap.size w w' :=
  thou5_is 12500 0 ⟨#[49, 50, 46, 53]⟩ w (by decide) (show thou5 [49, 50, 46, 53] = (12500, 0) by decide)
theorem ex_of5 (w : World) (hp : Pow w) : Calls Tryd.prog 16 #[.int .i64 500] w fun e w' => e = .returned (.tuple #[.string ⟨#[48, 46, 53]⟩, .int .i64 0]) ∧ Below w.heap.size w w' :=
  of5_is 500 0 [48, 46, 53] w hp (ex_of 500 _ (by decide) (by decide) (by decide))
theorem ex_cmp (w : World) : Calls Tryd.prog 18 #[.string ⟨#[48, 46, 53]⟩, .string ⟨#[49]⟩] w fun e w' => e = .returned (.tuple #[.int .i64 (-1), .int .i64 0]) ∧ Below w.heap.size w w' := by
  have := cmp5_any ⟨#[48, 46, 53]⟩ ⟨#[49]⟩ w (by decide) (by decide)
  rw [show cmp5 (⟨#[48, 46, 53]⟩ : ByteArray).data.toList (⟨#[49]⟩ : ByteArray).data.toList = (-1, 0) from by decide] at this
  exact this
theorem ex_chk (w : World) : Calls Tryd.prog 14 #[.string ⟨#[49, 46, 53, 48]⟩] w fun e w' => e = .returned (.int .i64 3) ∧ Below w.heap.size w w' :=
  check5_is 3 _ w (by decide) (show chk5 [49, 46, 53, 48] = 3 by decide)

def exRows : Array Value := #[.string ⟨#[49]⟩, .string ⟨#[50]⟩, .string ⟨#[49, 46, 49]⟩, .string ⟨#[49]⟩, .string ⟨#[51]⟩, .string ⟨#[50]⟩, .string ⟨#[49, 46, 57]⟩, .string ⟨#[50, 46, 49]⟩, .string ⟨#[50]⟩, .string ⟨#[49, 46, 57, 56]⟩, .string ⟨#[50]⟩, .string ⟨#[49, 46, 57, 57]⟩]

set_option maxHeartbeats 2000000 in
set_option maxRecDepth 100000 in
theorem awake5_any (w : World) (hp : Pow w) : Calls Tryd.prog 11 #[] w fun e w' => e = .returned (.bool true) ∧ Below w.heap.size w w' := by
  have HP := Lib.hid hp
  clear hp
  go_enter Tryd.func11, Tryd.ntmps11
  go_wp2_with fail
  refine (ex_thou _).mono ?_
  rintro e w1 ⟨rfl, hb1⟩
  have P1 := Lib.hid (HP.out.run hb1)
  go_wp2_with fail
  refine (ex_of5 _ P1.out).mono ?_
  rintro e w2 ⟨rfl, hb2⟩
  have P2 := Lib.hid (P1.out.run hb2)
  go_wp2_with fail
  refine (ex_cmp _).mono ?_
  rintro e w3 ⟨rfl, hb3⟩
  have P3 := Lib.hid (P2.out.run hb3)
  go_wp2_with fail
  refine (aft5_is _ [49, 51] 0 ⟨#[49, 51]⟩ _ P3.out (by decide) ex_after rfl).mono ?_
  rintro e w4 ⟨rfl, hb4⟩
  have B4 := below_run (below_run (below_run hb1 hb2) hb3) hb4
  clear hb1 hb2 hb3 hb4 P1 P2 P3
  have HB4 := Lib.hid B4
  clear B4
  go_wp2
  go_loopw [59] (fun i wr => ∃ k : Nat, k ≤ 4 ∧ i = .int .i64 k ∧ RowAt wr w4.heap.size 51 exRows ∧ Below w4.heap.size w4 wr) (fun i _ => 4 - (intOf i).toNat)
  case atStart => exact ⟨0, by omega, rfl, RowAt.mk rfl rfl, by (repeat' (first | (with_reducible exact Below.refl _ _) | (with_reducible assumption) | (with_reducible refine below_drewN ?_ _) | (with_reducible refine Below.drew ?_) | (with_reducible refine Below.setCell ?_ ?_ _) | (with_reducible refine Below.alloc ?_ ?_ _) | (with_reducible refine below_after ?_ ?_ (by assumption)) | (show _ ≤ _; first | omega | (simp; done) | (simp; omega))))⟩
  case round =>
    obtain ⟨k, hk, rfl, hr, hbr⟩ := hrel
    have hPr := Lib.hid (HP.out.run (below_run HB4.out hbr))
    obtain ⟨a1, a2, a3, a4, a5, a6⟩ := row_facts hr
    simp only [exRows] at a1
    have hk5 : k = 0 ∨ k = 1 ∨ k = 2 ∨ k = 3 ∨ k = 4 := by omega
    rcases hk5 with rfl | rfl | rfl | rfl | rfl
    · go_wp2_with fail
      refine (bet5_is ⟨#[49]⟩ ⟨#[50]⟩ [49, 46, 49] 0 ⟨#[49, 46, 49]⟩ _ (hPr.out.alloc _) (by decide) (by decide) ex_bet1 rfl).mono ?_
      rintro e u ⟨rfl, hbu⟩
      have hbu' : Below wr.heap.size wr u := below_run ((Below.refl _ _).alloc (Nat.le_refl _) _) hbu
      have hru := hr.run hbu'
      have hbw := below_run hbr hbu'
      have rx : RowAt u wr.heap.size 51 #[.string ⟨#[49]⟩, .string ⟨#[50]⟩, .string ⟨#[49, 46, 49]⟩] := (RowAt.new wr _ _).run hbu
      obtain ⟨rx1, rx2, rx3, rx4, rx5, rx6⟩ := row_facts rx
      clear hbu hbu' hbr hr
      go_wp2
      go_roundw
      case rel => exact ⟨1, by omega, by go_num, hru, hbw⟩
      case measure => simp [intOf]
    · go_wp2_with fail
      refine (bet5_is ⟨#[49]⟩ ⟨#[51]⟩ [50] 0 ⟨#[50]⟩ _ (hPr.out.alloc _) (by decide) (by decide) ex_bet2 rfl).mono ?_
      rintro e u ⟨rfl, hbu⟩
      have hbu' : Below wr.heap.size wr u := below_run ((Below.refl _ _).alloc (Nat.le_refl _) _) hbu
      have hru := hr.run hbu'
      have hbw := below_run hbr hbu'
      have rx : RowAt u wr.heap.size 51 #[.string ⟨#[49]⟩, .string ⟨#[51]⟩, .string ⟨#[50]⟩] := (RowAt.new wr _ _).run hbu
      obtain ⟨rx1, rx2, rx3, rx4, rx5, rx6⟩ := row_facts rx
      clear hbu hbu' hbr hr
      go_wp2
      go_roundw
      case rel => exact ⟨2, by omega, by go_num, hru, hbw⟩
      case measure => simp [intOf]
    · go_wp2_with fail
      refine (bet5_is ⟨#[49, 46, 57]⟩ ⟨#[50, 46, 49]⟩ [50] 0 ⟨#[50]⟩ _ (hPr.out.alloc _) (by decide) (by decide) ex_bet3 rfl).mono ?_
      rintro e u ⟨rfl, hbu⟩
      have hbu' : Below wr.heap.size wr u := below_run ((Below.refl _ _).alloc (Nat.le_refl _) _) hbu
      have hru := hr.run hbu'
      have hbw := below_run hbr hbu'
      have rx : RowAt u wr.heap.size 51 #[.string ⟨#[49, 46, 57]⟩, .string ⟨#[50, 46, 49]⟩, .string ⟨#[50]⟩] := (RowAt.new wr _ _).run hbu
      obtain ⟨rx1, rx2, rx3, rx4, rx5, rx6⟩ := row_facts rx
      clear hbu hbu' hbr hr
      go_wp2
      go_roundw
      case rel => exact ⟨3, by omega, by go_num, hru, hbw⟩
      case measure => simp [intOf]
    · go_wp2_with fail
      refine (bet5_is ⟨#[49, 46, 57, 56]⟩ ⟨#[50]⟩ [49, 46, 57, 57] 0 ⟨#[49, 46, 57, 57]⟩ _ (hPr.out.alloc _) (by decide) (by decide) ex_bet4 rfl).mono ?_
      rintro e u ⟨rfl, hbu⟩
      have hbu' : Below wr.heap.size wr u := below_run ((Below.refl _ _).alloc (Nat.le_refl _) _) hbu
      have hru := hr.run hbu'
      have hbw := below_run hbr hbu'
      have rx : RowAt u wr.heap.size 51 #[.string ⟨#[49, 46, 57, 56]⟩, .string ⟨#[50]⟩, .string ⟨#[49, 46, 57, 57]⟩] := (RowAt.new wr _ _).run hbu
      obtain ⟨rx1, rx2, rx3, rx4, rx5, rx6⟩ := row_facts rx
      clear hbu hbu' hbr hr
      go_wp2
      go_roundw
      case rel => exact ⟨4, by omega, by go_num, hru, hbw⟩
      case measure => simp [intOf]
    · have hb9 := below_run HB4.out hbr
      clear hbr hr
      go_wp2_with fail
      refine (bet5_is ⟨#[49, 46, 48, 48, 49]⟩ ⟨#[49, 46, 48, 48, 50]⟩ [] 12 ⟨#[]⟩ _ hPr.out (by decide) (by decide) ex_bet5 rfl).mono ?_
      rintro e u ⟨rfl, hbu⟩
      have hbv := below_run hb9 hbu
      go_wp2_with fail
      refine (ex_chk _).mono ?_
      rintro e v ⟨rfl, hbv2⟩
      go_wp2
      go_ret
      exact ⟨rfl, below_run hbv hbv2⟩
end Go.Proofs.YtnkgpfcoidilnaaDoor
