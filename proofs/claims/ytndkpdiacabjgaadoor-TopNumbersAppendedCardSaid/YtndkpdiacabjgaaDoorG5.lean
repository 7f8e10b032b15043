/-
  The thousandths of numbers: what both sides say.
-/
import Derived.Test.YtndkpdiacabjgaaDoorF5
import Derived.Lib.AtoiErrMem
namespace Go.Proofs.YtndkpdiacabjgaaDoor
open Go.RowKit

theorem chk_size {l : List UInt8} (h : chk5 l = 0) : (wholeOf l).length ≤ 4 ∧ (restOf l).length ≤ 3 := ⟨(chk_ok h).2.1, (chk_ok h).2.2.2⟩

theorem atoi_list (x y : ByteArray) : (x ++ (y ++ ⟨#[48, 48, 48]⟩).extract 0 3).data.toList = x.data.toList ++ (y.data.toList ++ [48, 48, 48]).take 3 := by
  have h := take_extract (y ++ ⟨#[48, 48, 48]⟩) 3
  rw [ByteArray.data_append, Array.toList_append, h, ByteArray.data_append, Array.toList_append]

set_option maxHeartbeats 1000000 in
set_option maxRecDepth 100000 in
theorem value5_any (s : ByteArray) (w : World) (hs : s.size ≤ 9223372036854775806) (h : chk5 s.data.toList = 0) :
    Calls Tryd.prog 15 #[.string s] w fun e w' => e = .returned (.int .i64 (val5 s.data.toList)) ∧ Below w.heap.size w w' := by
  have C := fun W => cut5_any s W hs
  obtain ⟨h4, h3⟩ := chk_size h
  have hA := val_atoi h
  obtain ⟨x, hx⟩ : ∃ x, str (wholeOf s.data.toList) = x := ⟨_, rfl⟩
  obtain ⟨y, hy⟩ : ∃ y, str (restOf s.data.toList) = y := ⟨_, rfl⟩
  have hxl : x.data.toList = wholeOf s.data.toList := by rw [← hx, str_data]
  have hyl : y.data.toList = restOf s.data.toList := by rw [← hy, str_data]
  have hxs : x.size ≤ 4 := by rw [← hx, str_len]; exact h4
  have hys : y.size ≤ 3 := by rw [← hy, str_len]; exact h3
  have hz : (y ++ (⟨#[48, 48, 48]⟩ : ByteArray)).size = y.size + 3 := by simp; rfl
  rw [← hxl, ← hyl, ← atoi_list] at hA
  rw [hx, hy] at C
  have hXs : (x ++ (y ++ (⟨#[48, 48, 48]⟩ : ByteArray)).extract 0 3).size ≤ 9223372036854775806 := by
    rw [ByteArray.size_append, ByteArray.size_extract, hz]; omega
  have A := fun W => Tryd.strconv_Atoi_ok _ hXs _ hA W
  have HC := Lib.hid C
  have HA := Lib.hid A
  have z1 : ¬ (9223372036854775807 : Int) < (y.size : Int) + 3 := by omega
  have z2 : (y.size : Int) ≤ 3 := by omega
  have z3 : (x.size : Int) ≤ 4 := by omega
  have z4 : (3 : Int) ≤ ((y ++ (⟨#[48, 48, 48]⟩ : ByteArray)).size : Int) := by rw [hz]; omega
  clear C A hA hx hy hxl hyl h hs h4 h3 hXs hxs hys hz
  go_enter Tryd.func15, Tryd.ntmps15
  go_wp2_with fail
  refine (HC.out _).mono ?_
  rintro e w1 ⟨rfl, hb⟩
  go_wp2_with fail
  refine (HA.out _).mono ?_
  rintro e w2 ⟨rfl, hb2⟩
  go_wp2
  go_ret
  refine ⟨rfl, ?_⟩
  rcases hb2 with rfl | ⟨t, rfl⟩
  · exact hb
  · exact below_run hb (Lib.bytesWorld_below _ _ _)

/-! ### The reference's value -/
theorem dval_take (s : ByteArray) (k : Nat) (h : k < s.size) : dval (s.data.toList.take (k + 1)) = 10 * dval (s.data.toList.take k) + (s[k].toNat - 48) := by
  rw [take_snoc s k h, dval_snoc]
theorem all_take_get {s : ByteArray} (h : s.data.toList.all isDig = true) (k : Nat) (hk : k < s.size) : 48 ≤ s[k].toNat ∧ s[k].toNat ≤ 57 := by
  rw [List.all_eq_true] at h
  exact isDig_le (h _ (List.getElem_mem (l := s.data.toList) (by simpa using hk)))
theorem dval_take_lt {s : ByteArray} (h : s.data.toList.all isDig = true) (k m : Nat) (hk : k ≤ m) : dval (s.data.toList.take k) < 10 ^ m := by
  have a := dval_lt _ (all_take _ k h)
  have b : (s.data.toList.take k).length ≤ m := Nat.le_trans (List.length_take_le _ _) hk
  exact Nat.lt_of_lt_of_le a (Nat.pow_le_pow_right (by decide) b)

/-- The digits behind the point, filled up with zeros. -/
def padR (y : ByteArray) (k : Nat) : List UInt8 := (y.data.toList ++ [48, 48, 48]).take k
theorem padR_in (y : ByteArray) (k : Nat) (h : k < y.size) (l : List UInt8) : dval (l ++ padR y (k + 1)) = 10 * dval (l ++ padR y k) + (y[k].toNat - 48) := by
  have hl : k < y.data.toList.length := by simpa using h
  unfold padR
  rw [List.take_append_of_le_length (by omega), List.take_append_of_le_length (by omega), take_snoc y k h, ← List.append_assoc, dval_snoc]
theorem zeros_at : ∀ (i : Nat) (hi : i < ([48, 48, 48] : List UInt8).length), ([48, 48, 48] : List UInt8)[i] = 48
  | 0, _ => rfl
  | 1, _ => rfl
  | 2, _ => rfl
theorem padR_out (y : ByteArray) (k : Nat) (h : y.size ≤ k) (hk : k < 3) (l : List UInt8) : dval (l ++ padR y (k + 1)) = 10 * dval (l ++ padR y k) := by
  have hl : y.data.toList.length = y.size := by simp
  have h1 : k < (y.data.toList ++ [48, 48, 48]).length := by rw [List.length_append, hl]; simp; omega
  have h2 : (y.data.toList ++ [48, 48, 48])[k] = 48 := by
    rw [List.getElem_append_right (by omega)]
    exact zeros_at _ _
  unfold padR
  rw [List.take_succ_eq_append_getElem h1, h2, ← List.append_assoc, dval_snoc]
  rfl
theorem padR_lt {x y : ByteArray} (h : x.data.toList.all isDig = true) (h2 : y.data.toList.all isDig = true) (hx : x.size ≤ 4) (k : Nat) (hk : k ≤ 3) : dval (x.data.toList ++ padR y k) < 10000000 := by
  have hl : x.data.toList.length = x.size := by simp
  have ha : (x.data.toList ++ padR y k).all isDig = true := by
    rw [List.all_append, h]
    exact all_take _ _ (by rw [List.all_append, h2]; rfl)
  have a := dval_lt _ ha
  have b : (x.data.toList ++ padR y k).length ≤ 7 := by
    rw [List.length_append, hl]
    have := List.length_take_le k (y.data.toList ++ [48, 48, 48])
    unfold padR
    omega
  exact Nat.lt_of_lt_of_le a (Nat.pow_le_pow_right (by decide) b)

theorem u8_digit (b : UInt8) (h : 48 ≤ b.toNat) : IntKind.u8.wrap ((b.toNat : Int) - 48) = ((b.toNat - 48 : Nat) : Int) := by
  have := b.toNat_lt
  rw [IntWalk.u8_in _ (by omega)]
  omega

end Go.Proofs.YtndkpdiacabjgaaDoor
