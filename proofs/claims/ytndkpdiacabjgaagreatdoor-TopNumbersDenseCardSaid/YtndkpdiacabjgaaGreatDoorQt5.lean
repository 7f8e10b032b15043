/-
  What the reference makes of two numbers, in a world that only draws.
-/
import Derived.Test.YtndkpdiacabjgaaGreatDoorL5
namespace Go.Proofs.YtndkpdiacabjgaaGreatDoor
open Go.RowKit

set_option maxHeartbeats 1000000 in
theorem split_quiet (s : ByteArray) (w : World) (hsz : s.size ≤ 9223372036854775807) :
    Calls Tryz.prog 24 #[.string s] w fun e w' => e = .returned (.tuple #[.string (str (wholeOf s.data.toList)), .string (str (restOf s.data.toList)), .bool (hasPt s.data.toList)]) ∧ ∃ n, w' = w.drewN n := by
  go_enter Tryz.func24, Tryz.ntmps24
  go_wp2
  go_loop [5] (fun i => ∃ k : Nat, k ≤ s.size ∧ i = .int .i64 k ∧ hasPt (s.data.toList.take k) = false) (fun i => s.size - (intOf i).toNat)
  case atStart => exact ⟨0, Nat.zero_le _, rfl, rfl⟩
  case round =>
    obtain ⟨k, hk, rfl, hf⟩ := hrel
    by_cases hlt : k < s.size
    · by_cases hp : s[k] = 46
      · have hs := split_at s k hlt
        rw [hp] at hs
        obtain ⟨h1, h2, h3⟩ := with_pt2 _ (s.data.toList.drop (k + 1)) hf
        rw [← hs] at h1 h2 h3
        have hx1 : str (wholeOf s.data.toList) = s.extract 0 k := (str_of_list (by rw [take_extract, h1])).symm
        have hx2 : str (restOf s.data.toList) = s.extract (k + 1) s.size := (str_of_list (by rw [drop_extract, h2])).symm
        have HX := Lib.hid (And.intro hx1 (And.intro hx2 h3))
        have hpn : (s[k].toNat : Int) = 46 := by rw [hp]; rfl
        clear hs h1 h2 h3 hx1 hx2 hp hf
        have hk1 : (k : Int) + 1 ≤ (s.size : Int) := by omega
        go_wp2
        go_region
        go_wp2
        go_ret3
        exact ⟨by rw [HX.out.1, HX.out.2.1, HX.out.2.2]; rfl, 1, rfl⟩
      · have hpn : ¬ (s[k].toNat : Int) = 46 := fun h => hp (UInt8.toNat_inj.1 (by simpa using Int.ofNat.inj h))
        have hn : hasPt (s.data.toList.take (k + 1)) = false := by rw [take_snoc s k hlt]; exact hasPt_snoc _ _ hf hp
        go_wp2
        go_round
        case rel => exact ⟨k + 1, by omega, by go_num, hn⟩
        case measure => simp [intOf]; omega
    · rw [List.take_of_length_le (by simp; omega)] at hf
      obtain ⟨h1, h2⟩ := no_pt2 _ hf
      have hx : str (wholeOf s.data.toList) = s := (str_of_list h1.symm).symm
      have HX := Lib.hid (And.intro hx (And.intro h2 hf))
      clear hx h1 h2 hf
      go_wp2
      go_ret3
      exact ⟨by rw [HX.out.1, HX.out.2.1, HX.out.2.2]; rfl, 0, rfl⟩
set_option maxHeartbeats 2000000 in
set_option maxRecDepth 100000 in
theorem rvalue_quiet (s : ByteArray) (w : World) (hs : s.size ≤ 9223372036854775806) (h : chk5 s.data.toList = 0) :
    Calls Tryz.prog 26 #[.string s] w fun e w' => e = .returned (.int .i64 (val5 s.data.toList)) ∧ ∃ n, w' = w.drewN n := by
  have C := fun W => split_quiet s W (by omega)
  obtain ⟨hd, h4, hd2, h3⟩ := chk_ok h
  have hda : (wholeOf s.data.toList).all isDig = true := by
    unfold digs at hd
    rw [Bool.and_eq_true] at hd
    exact hd.1
  obtain ⟨x, hx⟩ : ∃ x, str (wholeOf s.data.toList) = x := ⟨_, rfl⟩
  obtain ⟨y, hy⟩ : ∃ y, str (restOf s.data.toList) = y := ⟨_, rfl⟩
  have hxl : x.data.toList = wholeOf s.data.toList := by rw [← hx, str_data]
  have hyl : y.data.toList = restOf s.data.toList := by rw [← hy, str_data]
  have hxs : x.size ≤ 4 := by rw [← hx, str_len]; exact h4
  have hys : y.size ≤ 3 := by rw [← hy, str_len]; exact h3
  have hval : val5 s.data.toList = dval (x.data.toList ++ padR y 3) := by
    unfold val5 padR
    rw [hxl, hyl]
  rw [← hxl] at hda
  rw [← hyl] at hd2
  rw [hx, hy] at C
  rw [hval]
  have HC := Lib.hid C
  have HX := Lib.hid hda
  have HY := Lib.hid hd2
  clear C hx hy hxl hyl hval hda hd2 hd h3 h4 h hs
  go_enter Tryz.func26, Tryz.ntmps26
  go_wp2_with fail
  refine (HC.out _).mono ?_
  rintro e w1 ⟨rfl, q, rfl⟩
  clear HC
  go_wp2
  go_loop [6, 7] (fun n i => ∃ k : Nat, k ≤ x.size ∧ i = .int .i64 k ∧ n = .int .i64 (dval (x.data.toList.take k))) (fun _ i => x.size - (intOf i).toNat)
  case atStart => exact ⟨0, Nat.zero_le _, rfl, rfl⟩
  case round =>
    obtain ⟨k, hk, rfl, rfl⟩ := hrel
    by_cases hlt : k < x.size
    · have hb := all_take_get HX.out k hlt
      have hn := dval_take_lt HX.out k 4 (by omega)
      have HS := Lib.hid (dval_take x k hlt)
      have hu := u8_digit x[k] hb.1
      obtain ⟨n, hnn⟩ : ∃ n, dval (x.data.toList.take k) = n := ⟨_, rfl⟩
      rw [hnn] at hn HS ⊢
      obtain ⟨d, hdd⟩ : ∃ d, x[k].toNat - 48 = d := ⟨_, rfl⟩
      rw [hdd] at hu HS
      have hd9 : d ≤ 9 := by omega
      have hn4 : n < 10000 := by simpa using hn
      clear hnn hdd hb hn
      go_wp2
      go_round
      case rel => exact ⟨k + 1, by omega, by go_num, by rw [HS.out]; go_num⟩
      case measure => simp [intOf]; omega
    · obtain rfl : k = x.size := by omega
      have hfull : x.data.toList.take x.size = x.data.toList := List.take_of_length_le (by simp)
      have HF := Lib.hid hfull
      clear hfull
      go_wp2
      go_loop [6, 8] (fun n i => ∃ k : Nat, k ≤ 3 ∧ i = .int .i64 k ∧ n = .int .i64 (dval (x.data.toList ++ padR y k))) (fun _ i => 3 - (intOf i).toNat)
      case atStart => exact ⟨0, by omega, rfl, by rw [HF.out]; simp [padR]⟩
      case round =>
        obtain ⟨k, hk, rfl, rfl⟩ := hrel
        by_cases hlt : k < 3
        · have hn := padR_lt HX.out HY.out hxs k (by omega)
          obtain ⟨n, hnn⟩ : ∃ n, dval (x.data.toList ++ padR y k) = n := ⟨_, rfl⟩
          by_cases hin : k < y.size
          · have hb := all_take_get HY.out k hin
            have HS := Lib.hid (padR_in y k hin x.data.toList)
            have hu := u8_digit y[k] hb.1
            rw [hnn] at hn HS ⊢
            obtain ⟨d, hdd⟩ : ∃ d, y[k].toNat - 48 = d := ⟨_, rfl⟩
            rw [hdd] at hu HS
            have hd9 : d ≤ 9 := by omega
            clear hnn hdd hb
            go_wp2
            go_round
            case rel => exact ⟨k + 1, by omega, by go_num, by rw [HS.out]; go_num⟩
            case measure => simp [intOf]; omega
          · have HS := Lib.hid (padR_out y k (by omega) hlt x.data.toList)
            rw [hnn] at hn HS ⊢
            clear hnn
            go_wp2
            go_round
            case rel => exact ⟨k + 1, by omega, by go_num, by rw [HS.out]; go_num⟩
            case measure => simp [intOf]; omega
        · obtain rfl : k = 3 := by omega
          go_wp2
          go_ret
          exact ⟨rfl, q, rfl⟩
set_option maxHeartbeats 1000000 in
theorem rorder_quiet (a b : ByteArray) (w : World) (ha : a.size ≤ 9223372036854775806) (hb : b.size ≤ 9223372036854775806) (h1 : chk5 a.data.toList = 0) (h2 : chk5 b.data.toList = 0) :
    Calls Tryz.prog 7 #[.string a, .string b] w fun e w' => e = .returned (.int .i64 (ord5 (val5 a.data.toList) (val5 b.data.toList))) ∧ ∃ n, w' = w.drewN n := by
  have C1 := Lib.hid (fun W => rvalue_quiet a W ha h1)
  have C2 := Lib.hid (fun W => rvalue_quiet b W hb h2)
  obtain ⟨x, hx⟩ : ∃ x : Int, (val5 a.data.toList : Int) = x := ⟨_, rfl⟩
  obtain ⟨y, hy⟩ : ∃ y : Int, (val5 b.data.toList : Int) = y := ⟨_, rfl⟩
  rw [hx] at C1 ⊢
  rw [hy] at C2 ⊢
  clear ha hb h1 h2 hx hy
  by_cases h1 : x < y
  · have e1 : ord5 x y = -1 := by rw [ord5, if_pos h1]
    rw [e1]
    go_enter Tryz.func7, Tryz.ntmps7
    go_wp2_with fail
    refine (C1.out _).mono ?_
    rintro e w1 ⟨rfl, m1, rfl⟩
    go_wp2_with fail
    refine (C2.out _).mono ?_
    rintro e w2 ⟨rfl, m2, rfl⟩
    go_wp2
    go_ret
    exact ⟨rfl, m1 + m2, by simp⟩
  · by_cases h2 : y < x
    · have e1 : ord5 x y = 1 := by rw [ord5, if_neg h1, if_pos h2]
      rw [e1]
      go_enter Tryz.func7, Tryz.ntmps7
      go_wp2_with fail
      refine (C1.out _).mono ?_
      rintro e w1 ⟨rfl, m1, rfl⟩
      go_wp2_with fail
      refine (C2.out _).mono ?_
      rintro e w2 ⟨rfl, m2, rfl⟩
      go_wp2
      go_ret
      exact ⟨rfl, m1 + m2, by simp⟩
    · have e1 : ord5 x y = 0 := by rw [ord5, if_neg h1, if_neg h2]
      rw [e1]
      go_enter Tryz.func7, Tryz.ntmps7
      go_wp2_with fail
      refine (C1.out _).mono ?_
      rintro e w1 ⟨rfl, m1, rfl⟩
      go_wp2_with fail
      refine (C2.out _).mono ?_
      rintro e w2 ⟨rfl, m2, rfl⟩
      go_wp2
      go_ret
      exact ⟨rfl, m1 + m2, by simp⟩

end Go.Proofs.YtndkpdiacabjgaaGreatDoor
