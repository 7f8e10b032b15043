/-
  The walk of the law DiscoveryHears.
-/
import Derived.Test.YtiemdccjphdbmaaGreatFt
import Derived.Test.YtiemdccjphdbmaaGreatHd
namespace Go.Proofs.YtiemdccjphdbmaaGreat
open Go.RowKit

set_option maxHeartbeats 8000000 in
set_option maxRecDepth 100000 in
theorem law_hears (v va : Value) (l : List Dev) (la : List Msg) (dst src seq kind par : Int) (dat : ByteArray) (w : World) (hv : DevsAt w v l) (hva : MsgsAt w va la) (hr : l.length * 56 ≤ 140737488351232) (hds : dat.size ≤ 9223372036854775807) :
    Calls Tryz.prog 4 #[.agg #[.int .u64 dst, .int .u64 src, .int .i64 seq, .int .i64 kind, .int .i64 par, .string dat], va, v] w fun e w' => e = .returned (.bool true) ∧ Below w.heap.size w w' := by
  obtain ⟨q1, h1⟩ : ∃ q, fewD l = q := ⟨_, rfl⟩
  obtain ⟨q2, h2⟩ : ∃ q, decide (dat.size ≤ 510) = q := ⟨_, rfl⟩
  have H1 := Lib.hid h1
  have H2 := Lib.hid h2
  have HV := Lib.hid (hv.alloc (.cells #[.int .u64 dst, .int .u64 src, .int .i64 seq, .int .i64 kind, .int .i64 par, .string dat] 43))
  have HA := Lib.hid (hva.run ((Below.refl w.heap.size w).alloc (Nat.le_refl _) (.cells #[.int .u64 dst, .int .u64 src, .int .i64 seq, .int .i64 kind, .int .i64 par, .string dat] 43)))
  have R0 := Lib.hid (RowAt.new w 43 #[.int .u64 dst, .int .u64 src, .int .i64 seq, .int .i64 kind, .int .i64 par, .string dat])
  have HB0 := Lib.hid ((Below.refl w.heap.size w).alloc (Nat.le_refl _) (.cells #[.int .u64 dst, .int .u64 src, .int .i64 seq, .int .i64 kind, .int .i64 par, .string dat] 43))
  have hln : ∀ a k c, va = .slice a k c → k = la.length := by
    rintro a k c rfl
    rcases hva with ⟨h0, _, _, e⟩ | ⟨_, _, _, _, _, e, _⟩ <;> cases e <;> omega
  obtain ⟨sa, sk, sc, rfl⟩ := slice_of hva
  obtain rfl := hln _ _ _ rfl
  have hdv := fun W (h : DevsAt W v l) => devices_any v l W h hr
  have CD := Lib.hid hdv
  clear hv hva hln h1 h2 hdv
  go_enter Tryz.func4, Tryz.ntmps4
  go_wp2_with fail
  refine (CD.out _ HV.out).mono ?_
  rintro e w1 ⟨v1, rfl, hd1, hb1⟩
  have HD1 := Lib.hid hd1
  have HB1 := Lib.hid (below_run HB0.out hb1)
  have R1 := Lib.hid (R0.out.run hb1)
  have HV1 := Lib.hid (HV.out.run hb1)
  have HA1 := Lib.hid (HA.out.run hb1)
  clear hd1 hb1 R0 HB0 HV HA
  go_wp2_with fail
  refine (few48_is q1 _ l _ HD1.out H1).mono ?_
  rintro e w2 ⟨rfl, hb2⟩
  have HB2 := Lib.hid (below_run HB1.out hb2)
  have hm2 := R1.out.run hb2
  have HV2 := Lib.hid (HV1.out.run hb2)
  have HA2 := Lib.hid (HA1.out.run hb2)
  obtain ⟨x1, x2, x3, x4, x5, x6⟩ := row_facts hm2
  have R2 := Lib.hid hm2
  clear hb2 hm2 R1 HB1 HV1 HA1 HD1
  cases q1 with
  | false =>
    go_wp2_with fail
    refine (awake48_any _).mono ?_
    rintro e w3 ⟨rfl, hb3⟩
    go_wp2
    go_ret
    exact ⟨rfl, below_run HB2.out hb3⟩
  | true =>
  go_wp2_with fail
  refine (fewmsg_is q2 _ _ _ _ _ _ _ H2).mono ?_
  rintro e w3 ⟨rfl, hb3⟩
  have HB3 := Lib.hid (below_run HB2.out hb3)
  have hm3 := R2.out.run hb3
  have HV3 := Lib.hid (HV2.out.run hb3)
  have HA3 := Lib.hid (HA2.out.run hb3)
  obtain ⟨y1, y2, y3, y4, y5, y6⟩ := row_facts hm3
  have R3 := Lib.hid hm3
  clear hb3 hm3 x1 x2 x3 x4 x5 x6 R2 HB2 HV2 HA2
  cases q2 with
  | false =>
    go_wp2_with fail
    refine (awake48_any _).mono ?_
    rintro e w4 ⟨rfl, hb4⟩
    go_wp2
    go_ret
    exact ⟨rfl, below_run HB3.out hb4⟩
  | true =>
  by_cases hs : (8 < la.length ∧ la.length ≤ 64) ∨ 128 < la.length
  · obtain ⟨b1, hb1⟩ : ∃ b, decide ((8 : Int) < (la.length : Int)) = b := ⟨_, rfl⟩
    obtain ⟨b2, hb2⟩ : ∃ b, decide ((la.length : Int) ≤ 64) = b := ⟨_, rfl⟩
    obtain ⟨b3, hb3⟩ : ∃ b, decide ((128 : Int) < (la.length : Int)) = b := ⟨_, rfl⟩
    have h8 : (8 : Int) < (la.length : Int) := by omega
    by_cases h64 : (la.length : Int) ≤ 64
    · clear hs hb1 hb2 hb3
      go_wp2_with fail
      refine (awake48_any _).mono ?_
      rintro e w4 ⟨rfl, hb4⟩
      go_wp2
      go_ret
      exact ⟨rfl, below_run HB3.out hb4⟩
    · have h128 : (128 : Int) < (la.length : Int) := by omega
      clear hs hb1 hb2 hb3
      go_wp2_with fail
      refine (awake48_any _).mono ?_
      rintro e w4 ⟨rfl, hb4⟩
      go_wp2
      go_ret
      exact ⟨rfl, below_run HB3.out hb4⟩
  · have h128 : ¬ (128 : Int) < (la.length : Int) := by omega
    have hways : (¬ (8 : Int) < (la.length : Int)) ∨ ((8 : Int) < (la.length : Int) ∧ ¬ (la.length : Int) ≤ 64) := by omega
    have HW := Lib.hid hways
    clear hs hways
    rcases HW.out with g | ⟨g1, g2⟩
    all_goals
      have HHE := Lib.hid (fun W (h : MsgsAt W (.slice sa la.length sc) la) => heard_any _ la dst src seq kind par dat W h)
      have HRE := Lib.hid (fun W (h : MsgsAt W (.slice sa la.length sc) la) => rheard_any _ la dst src seq kind par dat W h)
      have HSM := Lib.hid (fewD_small H1.out)
      have hle3 := HB3.out.size
      have hb33 := Below.refl w3.heap.size w3
      go_wp2
      go_loopw [8, 44] (fun _ i wr => ∃ k : Nat, k ≤ la.length ∧ i = .int .i64 k ∧ Below w3.heap.size w3 wr) (fun _ i _ => la.length - (intOf i).toNat)
      case atStart => exact ⟨0, Nat.zero_le _, rfl, Below.refl _ _⟩
      case round =>
        obtain ⟨k, hk, rfl, hbr⟩ := hrel
        by_cases hlt2 : k < la.length
        · have hlt3 : (k : Int) < (la.length : Int) := by omega
          have hVr := HA3.out.run hbr
          rcases hVr with ⟨h0, _⟩ | ⟨h0, h1, b, off, cap, hv, hlt, hcel⟩
          · omega
          · cases hv
            obtain ⟨a, ha, e0, e1, e2, e3, e4, e5⟩ := msg_cells hcel k hlt2
            obtain ⟨c, hc⟩ : ∃ c, decide (a.dat.size ≤ 510) = c := ⟨_, rfl⟩
            have CA := Lib.hid (fun W => fewmsg_is c a.dst a.src a.seq a.kind a.par a.dat W hc)
            clear ha hc hcel
            go_wp2_with fail
            refine (CA.out _).mono ?_
            rintro e w4 ⟨rfl, hb4⟩
            have hb5 := below_run (hbr.alloc hbr.size _) hb4
            clear e0 e1 e2 e3 e4 e5 hb4 hbr y1 y2 y3 y4 y5 y6 CA
            cases c with
            | true =>
              go_wp2
              go_roundw
              case rel => exact ⟨k + 1, by omega, by go_num, hb5⟩
              case measure => simp [intOf]; omega
            | false =>
              go_wp2_with fail
              refine (awake48_any _).mono ?_
              rintro e w5 ⟨rfl, hb6⟩
              go_wp2
              go_ret
              exact ⟨rfl, below_run (below_run HB3.out hb5) hb6⟩
        · obtain rfl : k = la.length := by omega
          have hm4 := R3.out.run hbr
          have HB4 := Lib.hid (below_run HB3.out hbr)
          have HV4 := Lib.hid (HV3.out.run hbr)
          have HA4 := Lib.hid (HA3.out.run hbr)
          have R4 := Lib.hid hm4
          obtain ⟨x1, x2, x3, x4, x5, x6⟩ := row_facts hm4
          clear hm4 hbr y1 y2 y3 y4 y5 y6 R3 HB3 HV3 HA3 hk hlt2
          go_wp2_with fail
          refine (HHE.out _ HA4.out).mono ?_
          rintro e w5 ⟨kd, id, n, rfl, hh, hb5⟩
          have hm5 := R4.out.run hb5
          have HB5 := Lib.hid (below_run HB4.out hb5)
          have HV5 := Lib.hid (HV4.out.run hb5)
          have HA5 := Lib.hid (HA4.out.run hb5)
          have R5 := Lib.hid hm5
          obtain ⟨y1, y2, y3, y4, y5, y6⟩ := row_facts hm5
          clear hm5 hb5 x1 x2 x3 x4 x5 x6 R4 HB4 HV4 HA4
          go_wp2_with fail
          refine (HRE.out _ HA5.out).mono ?_
          rintro e w6 ⟨kd', id', n', rfl, hh', hb6⟩
          have hq := hh.out.symm.trans hh'.out
          simp only [Prod.mk.injEq] at hq
          obtain ⟨rfl, rfl, rfl⟩ := hq
          have z1 : (kd != kd) = false := by simp
          have z2 : (id != id) = false := by simp
          have z3 : (n != n) = false := by simp
          have hm6 := R5.out.run hb6
          have HB6 := Lib.hid (below_run HB5.out hb6)
          have HV6 := Lib.hid (HV5.out.run hb6)
          have R6 := Lib.hid hm6
          clear hm6 hb6 y1 y2 y3 y4 y5 y6 R5 HB5 HV5 HA5 hh hh'
          go_wp2_with fail
          refine (awake48_any _).mono ?_
          rintro e w7 ⟨rfl, hb7⟩
          have hm7 := R6.out.run hb7
          have HB7 := Lib.hid (below_run HB6.out hb7)
          have HV7 := Lib.hid (HV6.out.run hb7)
          have R7 := Lib.hid hm7
          obtain ⟨x1, x2, x3, x4, x5, x6⟩ := row_facts hm7
          clear hm7 hb7 R6 HB6 HV6
          go_wp2_with fail
          refine (probe_any v l dst src seq kind par dat _ HV7.out).mono ?_
          rintro e w8 ⟨v8, ld, kp, ip, np, rfl, hp, hll, hd8, hb8⟩
          have hm8 := R7.out.run hb8
          have HB8 := Lib.hid (below_run HB7.out hb8)
          have HV8 := Lib.hid (HV7.out.run hb8)
          have HD8 := Lib.hid hd8
          have HP := Lib.hid hp
          have R8 := Lib.hid hm8
          obtain ⟨y1, y2, y3, y4, y5, y6⟩ := row_facts hm8
          clear hm8 hb8 x1 x2 x3 x4 x5 x6 R7 HB7 HV7 hd8 hp z1 z2 z3
          go_wp2
          go_region_held3 (fun w' => w'.cell? ⟨w.heap.size, 0, none⟩ = some (.int .u64 dst) ∧ w'.cell? ⟨w.heap.size, 1, none⟩ = some (.int .u64 src) ∧ w'.cell? ⟨w.heap.size, 2, none⟩ = some (.int .i64 seq) ∧ w'.cell? ⟨w.heap.size, 3, none⟩ = some (.int .i64 kind) ∧ w'.cell? ⟨w.heap.size, 4, none⟩ = some (.int .i64 par) ∧ w'.cell? ⟨w.heap.size, 5, none⟩ = some (.string dat)) (go_keep)
            (first
              | (go_at_call 9; refine (CD.out _ (by exact HV8.out)).mono ?_; rintro e w9 ⟨v9, rfl, hd9, hb90⟩; have hb9 : Below w8.heap.size w8 w9 := (by first | exact hb90 | exact below_undrew hb90); clear hb90; have HD9 := Lib.hid hd9; have HDA9 := Lib.hid (HD8.out.run hb9); have hm9 := R8.out.run hb9; have R9 := Lib.hid hm9; obtain ⟨a1, a2, a3, a4, a5, a6⟩ := row_facts hm9; have HB9 := Lib.hid (below_run HB8.out hb9); clear hd9 hm9 hb9)
              | (go_at_call 19; refine (rprobe_any _ l dst src seq kind par dat _ (by exact HD9.out) HSM.out.2 hds).mono ?_; rintro e w10 ⟨v10, ld', kp', ip', np', rfl, hp', hll', hd10, hb10⟩; have HD10 := Lib.hid hd10; have HDA10 := Lib.hid (HDA9.out.run hb10); have HP' := Lib.hid hp'; have HB10 := Lib.hid (below_run HB9.out hb10); have hm10 := R9.out.run hb10; obtain ⟨c1, c2, c3, c4, c5, c6⟩ := row_facts hm10; clear hd10 hb10 hp' hm10))
          have hq := HP.out.out.symm.trans HP'.out.out
          simp only [Prod.mk.injEq] at hq
          obtain ⟨rfl, rfl, rfl, rfl⟩ := hq
          have z1 : (kp == kp) = true := by simp
          have z2 : (ip == ip) = true := by simp
          have z3 : (np == np) = true := by simp
          go_wp2_with fail
          refine (devices_any _ ld _ HDA10.out (by omega)).mono ?_
          rintro e w11 ⟨v11, rfl, hd11, hb11⟩
          have HD11 := Lib.hid hd11
          have HDB11 := Lib.hid (HD10.out.run hb11)
          have HB11 := Lib.hid (below_run HB10.out hb11)
          clear hd11 hb11
          go_wp2_with fail
          refine (same_any _ _ ld _ HD11.out HDB11.out).mono ?_
          rintro e w12 ⟨rfl, hb12⟩
          go_wp2
          go_ret
          exact ⟨rfl, below_run HB11.out hb12⟩
end Go.Proofs.YtiemdccjphdbmaaGreat
