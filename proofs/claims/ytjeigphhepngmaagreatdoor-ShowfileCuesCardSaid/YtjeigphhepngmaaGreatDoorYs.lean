/-
  The reader of integers and texts: the reference's.
  GetText of the reference; texts and ints that the reference writes.
-/
import Derived.Test.YtjeigphhepngmaaGreatDoorYq
import Derived.Test.YtjeigphhepngmaaGreatDoorYe
namespace Go.Proofs.YtjeigphhepngmaaGreatDoor
open Go.RowKit

set_option maxHeartbeats 400000 in
theorem rplace_any (s : ByteArray) (a : Nat) (w : World) (ha : a ≤ s.size) : Calls Tryz.prog 243 #[.string s, .int .i64 (a : Int)] w fun e w' => e = .returned (.bool true) ∧ w = w' := by
  have h1 : (0 : Int) ≤ (a : Int) := by omega
  have h2 : (a : Int) ≤ (s.size : Int) := by omega
  go_enter Tryz.func243, Tryz.ntmps243
  go_wp2
  go_ret
  exact ⟨rfl, rfl⟩

theorem ix_str (s : ByteArray) (k : Nat) (h : k < s.size) (W : World) : (Instr.index 9 (.string s) (.int .i64 (k : Int))).run Tryz.prog W = .ok (.int .u8 (s[k].toNat : Int)) W := by
  have h1 : (k : Int) < (s.size : Int) := by omega
  simp [go_sem, h]
theorem unz_ref (z : Nat) (hz : z < 18446744073709551616) : (z % 2 = 0 → (z : Int) / 2 = unzig z) ∧ (z % 2 = 1 → bits BinOp.xor .i64 (-1) ((z : Int) / 2) = unzig z) := by
  have h1 : (z : Int) / 2 = ((z / 2 : Nat) : Int) := by omega
  rw [h1]
  refine ⟨fun h => ?_, fun h => ?_⟩
  · rw [unzig, if_pos h]
  · rw [Lib.i64_not _ (by omega), unzig, if_neg (by omega)]
theorem getI_ofok {s : ByteArray} {a z c : Nat} (h : gz 0 0 (s.data.toList.drop a) = .ok (z, c)) : intV (getI s a) = .tuple #[.int .i64 (unzig z), .int .i64 ((a + c : Nat) : Int), .int .i64 0] := by
  unfold getI; rw [h]; rfl
theorem getI_oferr {s : ByteArray} {a : Nat} {c : Int} (h : gz 0 0 (s.data.toList.drop a) = .error c) : intV (getI s a) = .tuple #[.int .i64 0, .int .i64 0, .int .i64 c] := by
  unfold getI; rw [h]; rfl

set_option maxHeartbeats 4000000 in
set_option maxRecDepth 100000 in
theorem rgetint_any (s : ByteArray) (a : Nat) (w : World) (ha : a ≤ s.size) (hs : s.size ≤ 1000000) :
    Calls Tryz.prog 230 #[.string s, .int .i64 (a : Int)] w fun e w' => e = .returned (intV (getI s a)) ∧ w = w' := by
  have C1 := Lib.hid (fun W => rplace_any s a W ha)
  go_enter Tryz.func230, Tryz.ntmps230
  go_wp2_with fail
  refine (C1.out _).mono ?_
  rintro e w1 ⟨rfl, rfl⟩
  go_wp2
  go_loop [7, 8, 9, 10] (fun s7 s8 _ _ => ∃ (i : Nat) (zi : Int), i ≤ 10 ∧ s7 = .int .u64 zi ∧ s8 = .int .i64 (i : Int) ∧ (i ≤ 9 → a + i ≤ s.size) ∧ Hid (i ≤ 9 → ∃ z : Nat, zi = (z : Int) ∧ z < 2 ^ (7 * i) ∧ gz 0 0 (s.data.toList.drop a) = gz i z (s.data.toList.drop (a + i))) ∧ Hid (i = 10 → gz 0 0 (s.data.toList.drop a) = .error 3)) (fun _ s8 _ _ => 70 - (intOf s8).toNat)
  case atStart => exact ⟨0, 0, by omega, rfl, rfl, fun _ => by omega, Lib.hid (fun _ => ⟨0, rfl, by simp, rfl⟩), Lib.hid (fun h => by omega)⟩
  case round =>
    obtain ⟨i, zi, hi, rfl, rfl, hai, hz, hz10⟩ := hrel
    by_cases hi10 : i = 10
    · have HE := Lib.hid (getI_oferr (hz10.out hi10))
      have hi11 : ¬ (i : Int) < 10 := by omega
      clear hz hz10 hi10 hai
      go_wp2
      go_ret3
      exact ⟨(by rw [HE.out]; rfl), rfl⟩
    have hi9 : i ≤ 9 := by omega
    have hi11 : (i : Int) < 10 := by omega
    have hai := hai hi9
    obtain ⟨z, rfl, hzz⟩ := hz.out hi9
    have hz := Lib.hid hzz
    clear hz10 hi10 hzz
    by_cases hend : a + i < s.size
    · have q0 : ((a : Int) + (i : Int) == (s.size : Int)) = false := by rw [beq_eq_false_iff_ne]; omega
      have q1 : (a : Int) + (i : Int) < (s.size : Int) := by omega
      have q2 : (0 : Int) ≤ (a : Int) + (i : Int) := by omega
      have HZ1 := drop_at hend
      obtain ⟨c, hc⟩ : ∃ c, s[a + i] = c := ⟨_, rfl⟩
      have hix : ∀ W, (Instr.index 9 (.string s) (.int .i64 ((a : Int) + (i : Int)))).run Tryz.prog W = .ok (.int .u8 (c.toNat : Int)) W := by
        intro W
        have e : (a : Int) + (i : Int) = ((a + i : Nat) : Int) := by omega
        rw [e, ← hc]
        exact ix_str s (a + i) hend W
      rw [hc] at HZ1
      have HD := Lib.hid HZ1
      have hcl := c.toNat_lt
      clear hc HZ1
      obtain ⟨y, hy⟩ : ∃ y, c.toNat = y := ⟨_, rfl⟩
      have HY := Lib.hid hy
      rw [hy] at hix hcl
      clear hy
      by_cases k1 : 128 ≤ y ∧ i < 9
      · obtain ⟨g1, g2, g3⟩ := or_group (z := z) (i := i) (x := y % 128) hi9 hz.out.1 (by omega) (by omega)
        have t3 : (128 : Int) ≤ (y : Int) := by omega
        have t4 : (y : Int) ≤ 255 := by omega
        have hstep : gz 0 0 (s.data.toList.drop a) = gz (i + 1) (z + y % 128 * 2 ^ (7 * i)) (s.data.toList.drop (a + i + 1)) := by rw [hz.out.2, HD.out, gz, if_pos (by rw [HY.out]; exact k1), HY.out]
        have g4 := g3 k1.2
        have hor : bits BinOp.or IntKind.u64 (z : Int) (IntKind.u64.wrap ((y : Int) % 128 * 2 ^ (7 * i))) = ((z + y % 128 * 2 ^ (7 * i) : Nat) : Int) := by rw [← g1]; congr 3
        obtain ⟨z2, hz2⟩ : ∃ z2, z + y % 128 * 2 ^ (7 * i) = z2 := ⟨_, rfl⟩
        rw [hz2] at g2 g4 hor hstep
        have HS := Lib.hid (And.intro g4 hstep)
        have k2 := k1.2
        clear g1 g3 g4 hstep hz2
        go_wp2
        go_round
        case rel => exact ⟨i + 1, (z2 : Int), by omega, rfl, by go_num, fun _ => by omega, Lib.hid (fun _ => ⟨z2, rfl, HS.out.1, HS.out.2⟩), Lib.hid (fun h => by omega)⟩
        case measure => simp [intOf]; omega
      · have hm : i ≤ 8 ∨ i = 9 := by omega
        have t9 : (y : Int) ≤ 255 := by omega
        by_cases k2 : (0 < i ∧ y = 0) ∨ (i = 9 ∧ 1 < y)
        · by_cases k5 : 128 ≤ y
          · have k6 : i = 9 := by omega
            have HE := Lib.hid (show gz 0 0 (s.data.toList.drop a) = .error 3 from by rw [hz.out.2, HD.out, gz, if_neg (by rw [HY.out]; exact k1), if_pos (by rw [HY.out]; exact k2)])
            have t3 : (128 : Int) ≤ (y : Int) := by omega
            have K6 := Lib.hid k6
            clear k1 k2 hm k6
            go_wp2
            go_round
            case rel => exact ⟨i + 1, _, by omega, rfl, by go_num, fun h => absurd h (by have := K6.out; omega), Lib.hid (fun h => absurd h (by have := K6.out; omega)), Lib.hid (fun _ => HE.out)⟩
            case measure => simp [intOf]; omega
          · have HE := Lib.hid (show gz 0 0 (s.data.toList.drop a) = .error 3 from by rw [hz.out.2, HD.out, gz, if_neg (by rw [HY.out]; exact k1), if_pos (by rw [HY.out]; exact k2)])
            have t3 : ¬ (128 : Int) ≤ (y : Int) := by omega
            have hcl2 : (y : Int) < 128 := by omega
            rcases k2 with ⟨k6, rfl⟩ | ⟨k6, k7⟩
            · have t1 : (0 : Int) < (i : Int) := by omega
              clear k1 hm
              go_wp2
              go_ret3
              exact ⟨by rw [getI_oferr HE.out]; rfl, rfl⟩
            · have t2 : (1 : Int) < (y : Int) := by omega
              have t1 : (0 : Int) < (i : Int) := by omega
              have t4 : ((y : Int) == 0) = false := by rw [beq_eq_false_iff_ne]; omega
              have t5 : ((i : Int) == 9) = true := by rw [beq_iff_eq]; omega
              clear k1 hm k6
              go_wp2
              go_ret3
              exact ⟨by rw [getI_oferr HE.out]; rfl, rfl⟩
        · have k5 : y < 128 := by omega
          obtain ⟨g1, g2, -⟩ := or_group (z := z) (i := i) (x := y) hi9 hz.out.1 (by omega) (by omega)
          have hstep : gz 0 0 (s.data.toList.drop a) = .ok (z + y * 2 ^ (7 * i), i + 1) := by rw [hz.out.2, HD.out, gz, if_neg (by rw [HY.out]; exact k1), if_neg (by rw [HY.out]; exact k2), HY.out]
          have hm2 : (y : Int) % 128 = (y : Int) := by omega
          have hor : bits BinOp.or IntKind.u64 (z : Int) (IntKind.u64.wrap ((y : Int) % 128 * 2 ^ (7 * i))) = ((z + y * 2 ^ (7 * i) : Nat) : Int) := by rw [hm2]; exact g1
          have hor2 : bits BinOp.or IntKind.u64 (z : Int) (IntKind.u64.wrap ((y : Int) * 2 ^ (7 * i))) = ((z + y * 2 ^ (7 * i) : Nat) : Int) := g1
          obtain ⟨z2, hz2⟩ : ∃ z2, z + y * 2 ^ (7 * i) = z2 := ⟨_, rfl⟩
          rw [hz2] at g2 hor hor2 hstep
          have HS := Lib.hid (getI_ofok hstep)
          have t3 : ¬ (128 : Int) ≤ (y : Int) := by omega
          have hz20 : (0 : Int) ≤ (z2 : Int) := by omega
          obtain ⟨u0, u1⟩ := unz_ref z2 g2
          obtain ⟨n, hn⟩ : ∃ n, unzig z2 = n := ⟨_, rfl⟩
          rw [hn] at u0 u1
          have HN := Lib.hid hn
          have HI := Lib.hid (show ((a + (i + 1) : Nat) : Int) = (a : Int) + (i : Int) + 1 from by omega)
          have HK := Lib.hid (And.intro k1 k2)
          have p1 : i = 0 ∨ 0 < i := by omega
          have p2 : y = 0 → i = 0 := by omega
          have p3 : i = 9 → y ≤ 1 := by omega
          have P := Lib.hid (And.intro p1 (And.intro p2 p3))
          clear hstep hz2 g1 hn hm2 k1 k2 p1 p2 p3 hm
          have hw : (z2 % 2 = 0 ∨ z2 % 2 = 1) := by omega
          rcases hw with he | he
          · have u := u0 he
            have v1 : ((z2 : Int) % 2 == 1) = false := by rw [beq_eq_false_iff_ne]; omega
            clear u0 u1 he
            by_cases s0 : i = 0
            · have s1 : ¬ (0 : Int) < (i : Int) := by omega
              have s2 : ((i : Int) == 9) = false := by rw [beq_eq_false_iff_ne]; omega
              have S0 := Lib.hid s0
              clear s0
              go_wp2
              go_ret3
              exact ⟨(by rw [HS.out, HN.out, HI.out]; rfl), rfl⟩
            · have s1 : (0 : Int) < (i : Int) := by omega
              have s3 : ((y : Int) == 0) = false := by rw [beq_eq_false_iff_ne]; have := P.out.2.1; omega
              by_cases s4 : i = 9
              · have s2 : ((i : Int) == 9) = true := by rw [beq_iff_eq]; omega
                have s5 : ¬ (1 : Int) < (y : Int) := by have := P.out.2.2; omega
                have S0 := Lib.hid (And.intro s0 s4)
                clear s0 s4
                go_wp2
                go_ret3
                exact ⟨(by rw [HS.out, HN.out, HI.out]; rfl), rfl⟩
              · have s2 : ((i : Int) == 9) = false := by rw [beq_eq_false_iff_ne]; omega
                have S0 := Lib.hid (And.intro s0 s4)
                clear s0 s4
                go_wp2
                go_ret3
                exact ⟨(by rw [HS.out, HN.out, HI.out]; rfl), rfl⟩
          · have u := u1 he
            have v1 : ((z2 : Int) % 2 == 1) = true := by rw [beq_iff_eq]; omega
            clear u0 u1 he
            by_cases s0 : i = 0
            · have s1 : ¬ (0 : Int) < (i : Int) := by omega
              have s2 : ((i : Int) == 9) = false := by rw [beq_eq_false_iff_ne]; omega
              have S0 := Lib.hid s0
              clear s0
              go_wp2
              go_ret3
              exact ⟨(by rw [HS.out, HN.out, HI.out]; rfl), rfl⟩
            · have s1 : (0 : Int) < (i : Int) := by omega
              have s3 : ((y : Int) == 0) = false := by rw [beq_eq_false_iff_ne]; have := P.out.2.1; omega
              by_cases s4 : i = 9
              · have s2 : ((i : Int) == 9) = true := by rw [beq_iff_eq]; omega
                have s5 : ¬ (1 : Int) < (y : Int) := by have := P.out.2.2; omega
                have S0 := Lib.hid (And.intro s0 s4)
                clear s0 s4
                go_wp2
                go_ret3
                exact ⟨(by rw [HS.out, HN.out, HI.out]; rfl), rfl⟩
              · have s2 : ((i : Int) == 9) = false := by rw [beq_eq_false_iff_ne]; omega
                have S0 := Lib.hid (And.intro s0 s4)
                clear s0 s4
                go_wp2
                go_ret3
                exact ⟨(by rw [HS.out, HN.out, HI.out]; rfl), rfl⟩
    · have he : a + i = s.size := by omega
      have HS := Lib.hid (show gz 0 0 (s.data.toList.drop a) = .error 20 from by rw [hz.out.2, List.drop_eq_nil_of_le (by simp; omega)]; rfl)
      have q0 : ((a : Int) + (i : Int) == (s.size : Int)) = true := by rw [beq_iff_eq]; omega
      clear he
      go_wp2
      go_ret3
      exact ⟨by rw [getI_oferr HS.out]; rfl, rfl⟩
end Go.Proofs.YtjeigphhepngmaaGreatDoor

namespace Go.Proofs.YtjeigphhepngmaaGreatDoor
open Go.RowKit

set_option maxHeartbeats 1000000 in
set_option maxRecDepth 100000 in
theorem rgettext_any (s : ByteArray) (a : Nat) (w : World) (ha : a ≤ s.size) (hs : s.size ≤ 1000000) :
    Calls Tryz.prog 231 #[.string s, .int .i64 (a : Int)] w fun e w' => e = .returned (textV (getT s a)) ∧ w = w' := by
  have C1 := fun W => rgetint_any s a W ha hs
  cases hx : getI s a with
  | error c =>
    rw [hx] at C1
    have hc : c = 20 ∨ c = 3 := getI_err hx
    have hc0 : (c != 0) = true := by rw [bne_iff_ne]; omega
    have HT := Lib.hid (show getT s a = .error c from by unfold getT; rw [hx])
    simp only [intV] at C1
    have H1 := Lib.hid C1
    clear hx C1
    go_enter Tryz.func231, Tryz.ntmps231
    go_wp2_with fail
    refine (H1.out _).mono ?_
    rintro e w1 ⟨rfl, rfl⟩
    go_wp2
    go_ret3
    exact ⟨(by rw [HT.out]; rfl), rfl⟩
  | ok y =>
    obtain ⟨n, nx⟩ := y
    obtain ⟨m1, m2⟩ := getI_ok hx ha
    have HT0 : getT s a = if n < 0 ∨ 65535 < n then .error 3 else if (s.size : Int) - nx < n then .error 20 else .ok (s.extract nx (nx + n.toNat), nx + n.toNat) := by unfold getT; rw [hx]
    rw [hx] at C1
    simp only [intV] at C1
    have H1 := Lib.hid C1
    clear hx C1
    have m3 : (nx : Int) ≤ (s.size : Int) := by omega
    have m4 : (s.size : Int) ≤ 1000000 := by omega
    by_cases k1 : n < 0 ∨ 65535 < n
    · rw [if_pos k1] at HT0
      have HT := Lib.hid HT0
      clear HT0
      go_enter Tryz.func231, Tryz.ntmps231
      go_wp2_with fail
      refine (H1.out _).mono ?_
      rintro e w1 ⟨rfl, rfl⟩
      go_wp2
      all_goals go_ret3
      all_goals exact ⟨(by rw [HT.out]; rfl), rfl⟩
    · obtain ⟨q, rfl⟩ : ∃ q : Nat, n = (q : Int) := ⟨n.toNat, by omega⟩
      have q1 : ¬ (q : Int) < 0 := by omega
      have q2 : ¬ 65535 < (q : Int) := by omega
      rw [if_neg k1] at HT0
      by_cases k2 : (s.size : Int) - nx < (q : Int)
      · rw [if_pos k2] at HT0
        have HT := Lib.hid HT0
        clear HT0 k1
        go_enter Tryz.func231, Tryz.ntmps231
        go_wp2_with fail
        refine (H1.out _).mono ?_
        rintro e w1 ⟨rfl, rfl⟩
        go_wp2
        go_ret3
        exact ⟨(by rw [HT.out]; rfl), rfl⟩
      · rw [if_neg k2] at HT0
        have HT := Lib.hid HT0
        have k3 : (nx : Int) + (q : Int) ≤ (s.size : Int) := by omega
        have k4 : (nx : Int) ≤ (nx : Int) + (q : Int) := by omega
        have HI := Lib.hid (show ((nx + (q : Int).toNat : Nat) : Int) = (nx : Int) + (q : Int) from by omega)
        clear HT0 k1
        go_enter Tryz.func231, Tryz.ntmps231
        go_wp2_with fail
        refine (H1.out _).mono ?_
        rintro e w1 ⟨rfl, rfl⟩
        go_wp2
        go_ret3
        exact ⟨(by rw [HT.out]; simp only [textV]; rw [HI.out]; rfl), rfl⟩

set_option maxHeartbeats 1000000 in
set_option maxRecDepth 100000 in
theorem rtext_any (s : ByteArray) (w : World) (hs : s.size ≤ 9223372036854775807) :
    Calls Tryz.prog 217 #[.string s] w fun e w' => (e = .returned (.tuple #[.string (str (textB s)), .int .i64 (textE s)])) ∧ Below w.heap.size w w' := by
  by_cases h : 65535 < s.size
  · have h2 : (65535 : Int) < (s.size : Int) := by omega
    rw [textE, if_pos h, textB, if_pos h]
    go_enter Tryz.func217, Tryz.ntmps217
    go_wp2
    go_ret2
    exact ⟨rfl, by (repeat' (first | (with_reducible exact Below.refl _ _) | (with_reducible assumption) | (with_reducible refine below_run ?_ (by assumption)) | (with_reducible refine below_of_upd ?_ (by assumption) ?_) | (with_reducible refine below_drewN ?_ _) | (with_reducible refine Below.drew ?_) | (with_reducible refine below_seven ?_ ?_) | (with_reducible refine below_six ?_ ?_) | (with_reducible refine below_one ?_ ?_) | (with_reducible refine Below.alloc ?_ ?_ _) | (with_reducible refine below_after ?_ ?_ (by assumption)) | (show _ ≤ _; first | omega | (simp; done) | (simp; omega))))⟩
  · have h2 : ¬ (65535 : Int) < (s.size : Int) := by omega
    rw [textE, if_neg h, textB, if_neg h]
    go_enter Tryz.func217, Tryz.ntmps217
    go_wp2_with fail
    refine (rint_any s.size _ (by omega) (by omega)).mono ?_
    rintro e w1 ⟨rfl, hb⟩
    have hl := intB_len (n := s.size) (by omega) (by omega)
    have hx : str (intB s.size ++ s.data.toList) = str (intB s.size) ++ s := (str_add _ _).symm
    have HX := Lib.hid hx
    have hxl : ((str (intB s.size)).size : Int) ≤ 10 := by rw [str_length]; omega
    generalize str (intB s.size) = x at hxl HX ⊢
    have hsum : ¬ 9223372036854775807 < (x.size : Int) + (s.size : Int) := by omega
    clear hl hx
    go_wp2
    go_ret2
    exact ⟨(by rw [HX.out]; rfl), by (repeat' (first | (with_reducible exact Below.refl _ _) | (with_reducible assumption) | (with_reducible refine below_run ?_ (by assumption)) | (with_reducible refine below_of_upd ?_ (by assumption) ?_) | (with_reducible refine below_drewN ?_ _) | (with_reducible refine Below.drew ?_) | (with_reducible refine below_seven ?_ ?_) | (with_reducible refine below_six ?_ ?_) | (with_reducible refine below_one ?_ ?_) | (with_reducible refine Below.alloc ?_ ?_ _) | (with_reducible refine below_after ?_ ?_ (by assumption)) | (show _ ≤ _; first | omega | (simp; done) | (simp; omega))))⟩

theorem r50text_any (s : ByteArray) (w : World) (hs : s.size ≤ 9223372036854775807) :
    Calls Tryz.prog 113 #[.string s] w fun e w' => e = .returned (.string (str (textB s))) ∧ Below w.heap.size w w' := by
  go_enter Tryz.func113, Tryz.ntmps113
  go_wp2_with fail
  refine (rtext_any s _ hs).mono ?_
  rintro e w1 ⟨rfl, hb⟩
  go_wp2
  go_ret
  exact ⟨rfl, hb⟩

theorem r50truth_any (q : Bool) (w : World) : Calls Tryz.prog 171 #[.bool q] w fun e w' => e = .returned (.int .i64 (truthI q)) ∧ w = w' := by
  cases q with
  | true =>
    go_enter Tryz.func171, Tryz.ntmps171
    go_wp2
    go_ret
    exact ⟨rfl, rfl⟩
  | false =>
    go_enter Tryz.func171, Tryz.ntmps171
    go_wp2
    go_ret
    exact ⟨rfl, rfl⟩

set_option maxHeartbeats 1000000 in
set_option maxRecDepth 100000 in
theorem r50ints_any (g : Nat) (ns : List Int) (w : World) (hg : RowAt w g 3 (intA ns)) (hi : Ints64 ns) (h0 : 0 < ns.length) (hn : ns.length ≤ 100) :
    Calls Tryz.prog 117 #[.slice (some ⟨g, 0, none⟩) ns.length ns.length] w fun e w' => e = .returned (.string (str (intsB ns))) ∧ Below w.heap.size w w' := by
  have HI := Lib.hid hi
  have h3 : (ns.length : Int) ≤ 100 := by omega
  clear hi
  go_enter Tryz.func117, Tryz.ntmps117
  go_wp2
  go_loopw [3, 4] (fun s3 i wr => ∃ k : Nat, k ≤ ns.length ∧ i = .int .i64 k ∧ s3 = .string (str (intsB (ns.take k))) ∧ Hid ((intsB (ns.take k)).length ≤ 10 * k) ∧ Hid (RowAt wr g 3 (intA ns)) ∧ Below w.heap.size w wr) (fun _ i _ => ns.length - (intOf i).toNat)
  case atStart => exact ⟨0, Nat.zero_le _, rfl, rfl, by simp [Hid, intsB], Lib.hid hg, Below.refl _ _⟩
  case round =>
    obtain ⟨k, hk, rfl, rfl, hsz, hrr, hb0⟩ := hrel
    by_cases hlt : k < ns.length
    · have hlt3 : (k : Int) < (ns.length : Int) := by omega
      obtain ⟨x1, x2, x3, x4, x5, x6⟩ := row_facts hrr.out
      have hck : wr.cell? ⟨g, k, none⟩ = some (.int .i64 ns[k]) := by rw [x1 k]; simp [intA, List.getElem?_eq_getElem hlt]
      have hbd := HI.out ns[k] (List.getElem_mem hlt)
      have hts : ns.take (k + 1) = ns.take k ++ [ns[k]] := by rw [List.take_succ_eq_append_getElem hlt]
      have HT := Lib.hid hts
      have hk0 : (0 : Int) ≤ (k : Int) := by omega
      generalize ns[k] = n at hck hbd HT
      obtain ⟨m1, m2⟩ := hbd
      have hl := intB_len m1 m2
      have HL := Lib.hid hl
      have C1 := Lib.hid (fun W => rint_any n W m1 m2)
      have HX := Lib.hid (str_append (intsB (ns.take k)) (intB n))
      have hxl : ((str (intsB (ns.take k))).size : Int) ≤ 1000 := by rw [str_length]; have := hsz.out; omega
      have hyl : ((str (intB n)).size : Int) ≤ 10 := by rw [str_length]; omega
      generalize str (intsB (ns.take k)) = x at hxl HX ⊢
      generalize str (intB n) = y at hyl C1 HX ⊢
      have hsum : ¬ 9223372036854775807 < (x.size : Int) + (y.size : Int) := by omega
      clear x1 hts hl m1 m2
      go_wp2_with fail
      refine (C1.out _).mono ?_
      rintro e w1 ⟨rfl, hb1⟩
      have hr1 := Lib.hid (hrr.out.run hb1)
      have hb2 := Lib.hid (hb0.trans (hb1.mono hb0.size))
      clear hb1
      go_wp2
      go_roundw
      case rel => exact ⟨k + 1, by omega, by go_num, by rw [HT.out, intsB_append, HX.out]; simp [intsB], Lib.hid (by rw [HT.out, intsB_append]; have := hsz.out; have := HL.out; simp [intsB]; simp [intsB] at *; omega), hr1, hb2.out⟩
      case measure => simp [intOf]; omega
    · obtain rfl : k = ns.length := by omega
      have HK := Lib.hid (show ns.take ns.length = ns from List.take_length)
      go_wp2
      go_ret
      exact ⟨ret_str (by rw [HK.out]), hb0⟩
end Go.Proofs.YtjeigphhepngmaaGreatDoor
