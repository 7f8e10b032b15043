/-
  The law TopNumbersAppended.
-/
import Derived.Test.YtndkpdiacabjgaaDoorP5
import Derived.Test.YtndkpdiacabjgaaDoorS5
import Derived.Test.YtndkpdiacabjgaaDoorGl
namespace Go.Proofs.YtndkpdiacabjgaaDoor
open Go.RowKit

theorem next_1000 (v : Nat) : nextM (v : Int) 1000 = ((v / 1000 + 1) * 1000 : Nat) := by
  unfold nextM; omega

set_option maxHeartbeats 4000000 in
set_option maxRecDepth 100000 in
theorem law_appended (a : ByteArray) (w : World) (ha : a.size ≤ 9223372036854775806) (hp : Pow w) :
    Calls Tryd.prog 3 #[.string a] w fun e w' => e = .returned (.bool true) ∧ Below w.heap.size w w' := by
  have HP := Lib.hid hp
  clear hp
  obtain ⟨n, hn⟩ : ∃ n, chk5 a.data.toList = n := ⟨_, rfl⟩
  have C0 := Lib.hid (fun W => rcheck5_is n a W ha (Lib.hid hn))
  by_cases h0 : n = 0
  · subst h0
    have HA := Lib.hid hn
    clear hn
    go_enter Tryd.func3, Tryd.ntmps3
    go_wp2_with fail
    refine (C0.out _).mono ?_
    rintro e w1 ⟨rfl, hb1⟩
    go_wp2
    go_loopw [0, 3, 4, 5, 6, 7, 8, 13] (fun av _ _ _ _ _ _ i wr => ∃ (k : Nat) (s : ByteArray), k ≤ 5 ∧ i = .int .i64 k ∧ av = .string s ∧ s.size ≤ 9223372036854775806 ∧ Hid (chk5 s.data.toList = 0) ∧ Below w.heap.size w wr) (fun _ _ _ _ _ _ _ i _ => 5 - (intOf i).toNat)
    case atStart => exact ⟨0, a, by omega, rfl, rfl, ha, HA, hb1⟩
    case round =>
      rename World => wr
      obtain ⟨k, s, hk, rfl, rfl, hs, HS, hb0⟩ := hrel
      have HB := Lib.hid hb0
      clear hb1 hb0
      by_cases hlt : k < 5
      · have hlt' : (k : Int) < 5 := by omega
        have hk0 : (0 : Int) ≤ (k : Int) := by omega
        have hv := val_bound HS.out
        have ht := thou_good HS.out
        have hf : aft5 s.data.toList = of5 (nextM (val5 s.data.toList) 1000) := by rw [aft5, if_pos HS.out]
        obtain ⟨v, hve⟩ : ∃ v, val5 s.data.toList = v := ⟨_, rfl⟩
        rw [hve] at hv ht hf
        rw [next_1000 v] at hf
        obtain ⟨m, hm⟩ : ∃ m, (v / 1000 + 1) * 1000 = m := ⟨_, rfl⟩
        rw [hm] at hf
        have CT := Lib.hid (fun W => thou5_is v 0 s W hs (Lib.hid ht))
        by_cases hm9 : m ≤ 9999999
        · have hm1 : 1 ≤ m := by omega
          have hf2 : aft5 s.data.toList = (named m, 0) := by rw [hf, of5_in (by omega) (by omega)]; rfl
          obtain ⟨t, htt⟩ : ∃ t, str (named m) = t := ⟨_, rfl⟩
          have CA := Lib.hid (fun W (hW : Pow W) => aft5_is s (named m) 0 t W hW hs hf2 htt)
          have hcn : chk5 t.data.toList = 0 := by rw [← htt, str_data]; exact chk_named m hm1 hm9
          have hvn : val5 t.data.toList = m := by rw [← htt, str_data, val_named]
          have htl : t.size ≤ 9223372036854775806 := by
            rw [← htt, str_len]
            have := named_len m hm9
            omega
          have ht2 := thou_good hcn
          rw [hvn] at ht2
          have CT2 := Lib.hid (fun W => thou5_is m 0 t W htl (Lib.hid ht2))
          have HCN := Lib.hid hcn
          have r1 : (m : Int).tmod 1000 = 0 := by rw [Int.tmod_eq_emod_of_nonneg (by omega)]; omega
          have r2 : ¬ (m : Int) ≤ (v : Int) := by omega
          have r3 : IntKind.i64.wrap ((m : Int) - (v : Int)) = (m : Int) - (v : Int) := IntWalk.i64_in _ (by omega)
          have r4 : ¬ 1000 < (m : Int) - (v : Int) := by omega
          clear hv ht hf hve hm hm9 hm1 hf2 htt hcn hvn ht2
          go_wp2_with fail
          refine (CA.out _ (HP.out.run HB.out)).mono ?_
          rintro e w2 ⟨rfl, hb2⟩
          go_wp2_with fail
          refine (CT.out _).mono ?_
          rintro e w3 ⟨rfl, hb3⟩
          go_wp2_with fail
          refine (CT2.out _).mono ?_
          rintro e w4 ⟨rfl, hb4⟩
          have HB4 := Lib.hid (below_run (below_run (below_run HB.out hb2) hb3) hb4)
          clear hb2 hb3 hb4
          go_wp2
          go_roundw
          case rel => exact ⟨k + 1, t, by omega, by go_num, rfl, htl, HCN, HB4.out⟩
          case measure => simp [intOf]; omega
        · have hf2 : aft5 s.data.toList = ([], 2) := by rw [hf, of5, if_neg (by omega)]
          have CA := Lib.hid (fun W (hW : Pow W) => aft5_is s [] 2 ⟨#[]⟩ W hW hs hf2 rfl)
          have r1 : (9999000 : Int) ≤ (v : Int) := by omega
          clear hv ht hf hve hm hm9 hf2
          go_wp2_with fail
          refine (CA.out _ (HP.out.run HB.out)).mono ?_
          rintro e w2 ⟨rfl, hb2⟩
          go_wp2_with fail
          refine (CT.out _).mono ?_
          rintro e w3 ⟨rfl, hb3⟩
          have HB3 := Lib.hid (below_run (below_run HB.out hb2) hb3)
          clear hb2 hb3
          go_wp2_with fail
          refine (playN_any _ (HP.out.run HB3.out)).mono ?_
          rintro e w4 ⟨rfl, hb4⟩
          go_wp2
          go_ret
          exact ⟨rfl, below_run HB3.out hb4⟩
      · obtain rfl : k = 5 := by omega
        go_wp2_with fail
        refine (playN_any _ (HP.out.run HB.out)).mono ?_
        rintro e w4 ⟨rfl, hb4⟩
        go_wp2
        go_ret
        exact ⟨rfl, below_run HB.out hb4⟩
  · have e9 : (n != 0) = true := by simpa using h0
    clear hn ha
    go_enter Tryd.func3, Tryd.ntmps3
    go_wp2_with fail
    refine (C0.out _).mono ?_
    rintro e w1 ⟨rfl, hb1⟩
    go_wp2_with fail
    refine (playN_any _ (HP.out.run hb1)).mono ?_
    rintro e w2 ⟨rfl, hb2⟩
    go_wp2
    go_ret
    exact ⟨rfl, below_run hb1 hb2⟩
end Go.Proofs.YtndkpdiacabjgaaDoor
