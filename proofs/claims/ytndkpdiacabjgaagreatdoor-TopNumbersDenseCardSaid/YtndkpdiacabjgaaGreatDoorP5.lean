/-
  The examples of the chapter on numbers.
-/
import Derived.Test.YtndkpdiacabjgaaGreatDoorN5
import Derived.Test.YtndkpdiacabjgaaGreatDoorFar
namespace Go.Proofs.YtndkpdiacabjgaaGreatDoor
open Go.RowKit

theorem dd1 (n : Nat) (h : n < 10) : Lib.decDigits n = decN n 1 := decDigits_decN 0 n (by simp; omega) (.inl rfl)
theorem dd2 (n : Nat) (h : n < 100) (h2 : 10 ≤ n) : Lib.decDigits n = decN n 2 := decDigits_decN 1 n (by simp; omega) (.inr (by simp; omega))
theorem named1 (n : Nat) (h : n < 10000) : named n = decN (n / 1000) 1 ++ (if n % 1000 = 0 then [] else 46 :: Lib.trimRightB (three (n % 1000)) 48) := by rw [named, dd1 _ (by omega)]
theorem named2 (n : Nat) (h : n < 100000) (h2 : 10000 ≤ n) : named n = decN (n / 1000) 2 ++ (if n % 1000 = 0 then [] else 46 :: Lib.trimRightB (three (n % 1000)) 48) := by rw [named, dd2 _ (by omega) (by omega)]

theorem ex_of (n : Nat) (l : List UInt8) (h1 : 1 ≤ n) (h : n < 10000) (hl : decN (n / 1000) 1 ++ (if n % 1000 = 0 then [] else 46 :: Lib.trimRightB (three (n % 1000)) 48) = l) : of5 n = (l, 0) := by
  rw [of5_in (by omega) (by omega), Int.toNat_natCast, named1 n h, hl]
theorem ex_after : aft5 [49, 50, 46, 53] = ([49, 51], 0) := by
  rw [after_in (by decide), show nextM ((val5 [49, 50, 46, 53] : Nat) : Int) 1000 = ((13000 : Nat) : Int) from by decide, of5_in (by decide) (by decide), Int.toNat_natCast, named2 13000 (by decide) (by decide)]
  decide
theorem ex_bet1 : bet5 [49] [50] = ([49, 46, 49], 0) := by
  rw [bet_ab (by decide) (by decide), if_neg (by decide), betV_at _ _ 1 (by decide) (by decide) (by decide), show nextM ((val5 [49] : Nat) : Int) (units 1) = ((1100 : Nat) : Int) from by decide]
  exact ex_of 1100 _ (by decide) (by decide) (by decide)
theorem ex_bet2 : bet5 [49] [51] = ([50], 0) := by
  rw [bet_ab (by decide) (by decide), if_neg (by decide), betV_at _ _ 0 (by decide) (by decide) (by decide), show nextM ((val5 [49] : Nat) : Int) (units 0) = ((2000 : Nat) : Int) from by decide]
  exact ex_of 2000 _ (by decide) (by decide) (by decide)
theorem ex_bet3 : bet5 [49, 46, 57] [50, 46, 49] = ([50], 0) := by
  rw [bet_ab (by decide) (by decide), if_neg (by decide), betV_at _ _ 0 (by decide) (by decide) (by decide), show nextM ((val5 [49, 46, 57] : Nat) : Int) (units 0) = ((2000 : Nat) : Int) from by decide]
  exact ex_of 2000 _ (by decide) (by decide) (by decide)
theorem ex_bet4 : bet5 [49, 46, 57, 56] [50] = ([49, 46, 57, 57], 0) := by
  rw [bet_ab (by decide) (by decide), if_neg (by decide), betV_at _ _ 2 (by decide) (by decide) (by decide), show nextM ((val5 [49, 46, 57, 56] : Nat) : Int) (units 2) = ((1990 : Nat) : Int) from by decide]
  exact ex_of 1990 _ (by decide) (by decide) (by decide)
theorem ex_bet5 : bet5 [49, 46, 48, 48, 49] [49, 46, 48, 48, 50] = ([], 12) := by
  rw [bet_ab (by decide) (by decide), if_neg (by decide), betV_no _ _ (by decide)]

theorem bet5_is (a b : ByteArray) (r : List UInt8) (c : Int) (s : ByteArray) (w : World) (hp : Pow w) (ha : a.size ≤ 9223372036854775806) (hb : b.size ≤ 9223372036854775806) (h : bet5 a.data.toList b.data.toList = (r, c)) (hs : str r = s) :
    Calls Tryz.prog 9 #[.string a, .string b] w fun e w' => e = .returned (.tuple #[.string s, .int .i64 c]) ∧ Below w.heap.size w w' := by
  have := bet5_any a b w ha hb hp
  rw [h] at this
  rw [← hs]
  exact this
theorem ex_thou (w : World) : Calls Tryz.prog 10 #[.string ⟨#[49, 50, 46, 53]⟩] w fun e w' => e = .returned (.tuple #[.int .i64 12500, .int .i64 0]) ∧ Below w.heap.size w w' :=
  thou5_is 12500 0 ⟨#[49, 50, 46, 53]⟩ w (by decide) (show thou5 [49, 50, 46, 53] = (12500, 0) by decide)
theorem ex_of5 (w : World) (hp : Pow w) : Calls Tryz.prog 28 #[.int .i64 500] w fun e w' => e = .returned (.tuple #[.string ⟨#[48, 46, 53]⟩, .int .i64 0]) ∧ Below w.heap.size w w' :=
  of5_is 500 0 [48, 46, 53] w hp (ex_of 500 _ (by decide) (by decide) (by decide))
theorem ex_chk (w : World) : Calls Tryz.prog 29 #[.string ⟨#[49, 46, 53, 48]⟩] w fun e w' => e = .returned (.int .i64 3) ∧ Below w.heap.size w w' :=
  check5_is 3 _ w (by decide) (show chk5 [49, 46, 53, 48] = 3 by decide)

def exRows : Array Value := #[.string ⟨#[49]⟩, .string ⟨#[50]⟩, .string ⟨#[49, 46, 49]⟩, .string ⟨#[49]⟩, .string ⟨#[51]⟩, .string ⟨#[50]⟩, .string ⟨#[49, 46, 57]⟩, .string ⟨#[50, 46, 49]⟩, .string ⟨#[50]⟩, .string ⟨#[49, 46, 57, 56]⟩, .string ⟨#[50]⟩, .string ⟨#[49, 46, 57, 57]⟩]

end Go.Proofs.YtndkpdiacabjgaaGreatDoor
