/-
  The thousandths of numbers: what both sides say.
-/
import Derived.Test.YtndkpdiacabjgaaGreatDoorF5
import Derived.Lib.AtoiErrMem
namespace Go.Proofs.YtndkpdiacabjgaaGreatDoor
open Go.RowKit

theorem chk_size {l : List UInt8} (h : chk5 l = 0) : (wholeOf l).length ≤ 4 ∧ (restOf l).length ≤ 3 := ⟨(chk_ok h).2.1, (chk_ok h).2.2.2⟩

theorem atoi_list (x y : ByteArray) : (x ++ (y ++ ⟨#[48, 48, 48]⟩).extract 0 3).data.toList = x.data.toList ++ (y.data.toList ++ [48, 48, 48]).take 3 := by
  have h := take_extract (y ++ ⟨#[48, 48, 48]⟩) 3
  rw [ByteArray.data_append, Array.toList_append, h, ByteArray.data_append, Array.toList_append]

set_option maxHeartbeats 1000000 in
set_option maxRecDepth 100000 in
theorem value5_any (s : ByteArray) (w : World) (hs : s.size ≤ 9223372036854775806) (h : chk5 s.data.toList = 0) :
    Calls Tryz.prog 30 #[.string s] w fun e w' => e = .returned (.int .i64 (val5 s.data.toList)) ∧ Below w.heap.size w w' := by
  have C := fun W => cut5_any s W hs
  obtain ⟨h4, h3⟩ := chk_size h
  have hA := val_atoi h
  obtain ⟨x, hx⟩ : ∃ x, str (wholeOf s.data.toList) = x := ⟨_, rfl⟩
  obtain ⟨y, hy⟩ : ∃ y, str (restOf s.data.toList) = y := ⟨_, rfl⟩
  have hxl : x.data.toList = wholeOf s.data.toList := by rw [← hx, str_data]
  have hyl : y.data.toList = restOf s.data.toList := by rw [← hy, str_data]
  have hxs : x.size ≤ 4 := by rw [← hx, str_len]; exact h4
  have hys : y.size ≤ 3 := by rw [← hy, str_len]; exact h3
  have hz : (y ++ (⟨#[48, 48, 48]⟩ : ByteArray)).size = y.size + 3 := by simp; rfl
  rw [← hxl, ← hyl, ← atoi_list] at hA
  rw [hx, hy] at C
  have hXs : (x ++ (y ++ (⟨#[48, 48, 48]⟩ : ByteArray)).extract 0 3).size ≤ 9223372036854775806 := by
    rw [ByteArray.size_append, ByteArray.size_extract, hz]; omega
  have A := fun W => Tryz.strconv_Atoi_ok _ hXs _ hA W
  have HC := Lib.hid C
  have HA := Lib.hid A
  have z1 : ¬ (9223372036854775807 : Int) < (y.size : Int) + 3 := by omega
  have z2 : (y.size : Int) ≤ 3 := by omega
  have z3 : (x.size : Int) ≤ 4 := by omega
  have z4 : (3 : Int) ≤ ((y ++ (⟨#[48, 48, 48]⟩ : ByteArray)).size : Int) := by rw [hz]; omega
  clear C A hA hx hy hxl hyl h hs h4 h3 hXs hxs hys hz
  go_enter Tryz.func30, Tryz.ntmps30
  go_wp2_with fail
  refine (HC.out _).mono ?_
  rintro e w1 ⟨rfl, hb⟩
  go_wp2_with fail
  refine (HA.out _).mono ?_
  rintro e w2 ⟨rfl, hb2⟩
  go_wp2
  go_ret
  refine ⟨rfl, ?_⟩
  rcases hb2 with rfl | ⟨t, rfl⟩
  · exact hb
  · exact below_run hb (Lib.bytesWorld_below _ _ _)

/-! ### The reference's value -/
theorem dval_take (s : ByteArray) (k : Nat) (h : k < s.size) : dval (s.data.toList.take (k + 1)) = 10 * dval (s.data.toList.take k) + (s[k].toNat - 48) := by
  rw [take_snoc s k h, dval_snoc]
theorem all_take_get {s : ByteArray} (h : s.data.toList.all isDig = true) (k : Nat) (hk : k < s.size) : 48 ≤ s[k].toNat ∧ s[k].toNat ≤ 57 := by
  rw [List.all_eq_true] at h
  exact isDig_le (h _ (List.getElem_mem (l := s.data.toList) (by simpa using hk)))
theorem dval_take_lt {s : ByteArray} (h : s.data.toList.all isDig = true) (k m : Nat) (hk : k ≤ m) : dval (s.data.toList.take k) < 10 ^ m := by
  have a := dval_lt _ (all_take _ k h)
  have b : (s.data.toList.take k).length ≤ m := Nat.le_trans (List.length_take_le _ _) hk
  exact Nat.lt_of_lt_of_le a (Nat.pow_le_pow_right (by decide) b)

/-- The digits behind the point, filled up with zeros. -/
def padR (y : ByteArray) (k : Nat) : List UInt8 := (y.data.toList ++ [48, 48, 48]).take k
theorem padR_in (y : ByteArray) (k : Nat) (h : k < y.size) (l : List UInt8) : dval (l ++ padR y (k + 1)) = 10 * dval (l ++ padR y k) + (y[k].toNat - 48) := by
  have hl : k < y.data.toList.length := by simpa using h
  unfold padR
  rw [List.take_append_of_le_length (by omega), List.take_append_of_le_length (by omega), take_snoc y k h, ← List.append_assoc, dval_snoc]
theorem zeros_at : ∀ (i : Nat) (hi : i < ([48, 48, 48] : List UInt8).length), ([48, 48, 48] : List UInt8)[i] = 48
  | 0, _ => rfl
  | 1, _ => rfl
  | 2, _ => rfl
theorem padR_out (y : ByteArray) (k : Nat) (h : y.size ≤ k) (hk : k < 3) (l : List UInt8) : dval (l ++ padR y (k + 1)) = 10 * dval (l ++ padR y k) := by
  have hl : y.data.toList.length = y.size := by simp
  have h1 : k < (y.data.toList ++ [48, 48, 48]).length := by rw [List.length_append, hl]; simp; omega
  have h2 : (y.data.toList ++ [48, 48, 48])[k] = 48 := by
    rw [List.getElem_append_right (by omega)]
    exact zeros_at _ _
  unfold padR
  rw [List.take_succ_eq_append_getElem h1, h2, ← List.append_assoc, dval_snoc]
  rfl
theorem padR_lt {x y : ByteArray} (h : x.data.toList.all isDig = true) (h2 : y.data.toList.all isDig = true) (hx : x.size ≤ 4) (k : Nat) (hk : k ≤ 3) : dval (x.data.toList ++ padR y k) < 10000000 := by
  have hl : x.data.toList.length = x.size := by simp
  have ha : (x.data.toList ++ padR y k).all isDig = true := by
    rw [List.all_append, h]
    exact all_take _ _ (by rw [List.all_append, h2]; rfl)
  have a := dval_lt _ ha
  have b : (x.data.toList ++ padR y k).length ≤ 7 := by
    rw [List.length_append, hl]
    have := List.length_take_le k (y.data.toList ++ [48, 48, 48])
    unfold padR
    omega
  exact Nat.lt_of_lt_of_le a (Nat.pow_le_pow_right (by decide) b)

theorem u8_digit (b : UInt8) (h : 48 ≤ b.toNat) : IntKind.u8.wrap ((b.toNat : Int) - 48) = ((b.toNat - 48 : Nat) : Int) := by
  have := b.toNat_lt
  rw [IntWalk.u8_in _ (by omega)]
  omega

set_option maxHeartbeats 2000000 in
set_option maxRecDepth 100000 in
theorem rvalue5_any (s : ByteArray) (w : World) (hs : s.size ≤ 9223372036854775806) (h : chk5 s.data.toList = 0) :
    Calls Tryz.prog 26 #[.string s] w fun e w' => e = .returned (.int .i64 (val5 s.data.toList)) ∧ Below w.heap.size w w' := by
  have C := fun W => split_any s W (by omega)
  obtain ⟨hd, h4, hd2, h3⟩ := chk_ok h
  have hda : (wholeOf s.data.toList).all isDig = true := by
    unfold digs at hd
    rw [Bool.and_eq_true] at hd
    exact hd.1
  obtain ⟨x, hx⟩ : ∃ x, str (wholeOf s.data.toList) = x := ⟨_, rfl⟩
  obtain ⟨y, hy⟩ : ∃ y, str (restOf s.data.toList) = y := ⟨_, rfl⟩
  have hxl : x.data.toList = wholeOf s.data.toList := by rw [← hx, str_data]
  have hyl : y.data.toList = restOf s.data.toList := by rw [← hy, str_data]
  have hxs : x.size ≤ 4 := by rw [← hx, str_len]; exact h4
  have hys : y.size ≤ 3 := by rw [← hy, str_len]; exact h3
  have hval : val5 s.data.toList = dval (x.data.toList ++ padR y 3) := by
    unfold val5 padR
    rw [hxl, hyl]
  rw [← hxl] at hda
  rw [← hyl] at hd2
  rw [hx, hy] at C
  rw [hval]
  have HC := Lib.hid C
  have HX := Lib.hid hda
  have HY := Lib.hid hd2
  clear C hx hy hxl hyl hval hda hd2 hd h3 h4 h hs
  go_enter Tryz.func26, Tryz.ntmps26
  go_wp2_with fail
  refine (HC.out _).mono ?_
  rintro e w1 ⟨rfl, hb⟩
  have HB := Lib.hid hb
  clear hb HC
  go_wp2
  go_loop [6, 7] (fun n i => ∃ k : Nat, k ≤ x.size ∧ i = .int .i64 k ∧ n = .int .i64 (dval (x.data.toList.take k))) (fun _ i => x.size - (intOf i).toNat)
  case atStart => exact ⟨0, Nat.zero_le _, rfl, rfl⟩
  case round =>
    obtain ⟨k, hk, rfl, rfl⟩ := hrel
    by_cases hlt : k < x.size
    · have hb := all_take_get HX.out k hlt
      have hn := dval_take_lt HX.out k 4 (by omega)
      have HS := Lib.hid (dval_take x k hlt)
      have hu := u8_digit x[k] hb.1
      obtain ⟨n, hnn⟩ : ∃ n, dval (x.data.toList.take k) = n := ⟨_, rfl⟩
      rw [hnn] at hn HS ⊢
      obtain ⟨d, hdd⟩ : ∃ d, x[k].toNat - 48 = d := ⟨_, rfl⟩
      rw [hdd] at hu HS
      have hd9 : d ≤ 9 := by omega
      have hn4 : n < 10000 := by simpa using hn
      clear hnn hdd hb hn
      go_wp2
      go_round
      case rel => exact ⟨k + 1, by omega, by go_num, by rw [HS.out]; go_num⟩
      case measure => simp [intOf]; omega
    · obtain rfl : k = x.size := by omega
      have hfull : x.data.toList.take x.size = x.data.toList := List.take_of_length_le (by simp)
      have HF := Lib.hid hfull
      clear hfull
      go_wp2
      go_loop [6, 8] (fun n i => ∃ k : Nat, k ≤ 3 ∧ i = .int .i64 k ∧ n = .int .i64 (dval (x.data.toList ++ padR y k))) (fun _ i => 3 - (intOf i).toNat)
      case atStart => exact ⟨0, by omega, rfl, by rw [HF.out]; simp [padR]⟩
      case round =>
        obtain ⟨k, hk, rfl, rfl⟩ := hrel
        by_cases hlt : k < 3
        · have hn := padR_lt HX.out HY.out hxs k (by omega)
          obtain ⟨n, hnn⟩ : ∃ n, dval (x.data.toList ++ padR y k) = n := ⟨_, rfl⟩
          by_cases hin : k < y.size
          · have hb := all_take_get HY.out k hin
            have HS := Lib.hid (padR_in y k hin x.data.toList)
            have hu := u8_digit y[k] hb.1
            rw [hnn] at hn HS ⊢
            obtain ⟨d, hdd⟩ : ∃ d, y[k].toNat - 48 = d := ⟨_, rfl⟩
            rw [hdd] at hu HS
            have hd9 : d ≤ 9 := by omega
            clear hnn hdd hb
            go_wp2
            go_round
            case rel => exact ⟨k + 1, by omega, by go_num, by rw [HS.out]; go_num⟩
            case measure => simp [intOf]; omega
          · have HS := Lib.hid (padR_out y k (by omega) hlt x.data.toList)
            rw [hnn] at hn HS ⊢
            clear hnn
            go_wp2
            go_round
            case rel => exact ⟨k + 1, by omega, by go_num, by rw [HS.out]; go_num⟩
            case measure => simp [intOf]; omega
        · obtain rfl : k = 3 := by omega
          go_wp2
          go_ret
          exact ⟨rfl, HB.out⟩
end Go.Proofs.YtndkpdiacabjgaaGreatDoor
