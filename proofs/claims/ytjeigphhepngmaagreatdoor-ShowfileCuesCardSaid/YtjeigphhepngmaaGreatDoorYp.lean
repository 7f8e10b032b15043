/-
  The reader of integers and texts: record's.
-/
import Derived.WalkMore
import Derived.Lib.Zigzag
import Derived.Test.YtjeigphhepngmaaGreatDoorYc
namespace Go.Proofs.YtjeigphhepngmaaGreatDoor
open Go.RowKit

/-- A reader in memory. -/
def ERd (w : World) (b : Nat) (s : ByteArray) (a : Nat) : Prop := RowAt w b 317 #[.string s, .int .i64 (a : Int)]

set_option maxHeartbeats 1000000 in
set_option maxRecDepth 100000 in
theorem ehas_any (b : Nat) (s : ByteArray) (a : Nat) (n : Int) (w : World) (h : ERd w b s a) (ha : a ≤ s.size) (hs : s.size ≤ 1000000) (_hn : -1000000 ≤ n ∧ n ≤ 1000000) :
    Calls Tryz.prog 241 #[.pointer (some ⟨b, 0, none⟩), .int .i64 n] w fun e w' => e = .returned (.bool (decide (n ≤ (s.size : Int) - (a : Int)))) ∧ Below w.heap.size w w' := by
  obtain ⟨x1, x2, x3, x4, x5, x6⟩ := row_facts h
  have h1 : (a : Int) ≤ (s.size : Int) := by omega
  have h2 : (s.size : Int) ≤ 1000000 := by omega
  have h3 : IntKind.i64.wrap ((s.size : Int) - (a : Int)) = (s.size : Int) - (a : Int) := IntWalk.i64_in _ (by omega)
  clear h
  go_enter Tryz.func241, Tryz.ntmps241
  go_wp2
  go_quiet (fail)
  go_wp2
  go_ret
  exact ⟨rfl, by (repeat' (first | (with_reducible exact Below.refl _ _) | (with_reducible assumption) | (with_reducible refine below_run ?_ (by assumption)) | (with_reducible refine below_of_upd ?_ (by assumption) ?_) | (with_reducible refine below_drewN ?_ _) | (with_reducible refine Below.drew ?_) | (with_reducible refine below_seven ?_ ?_) | (with_reducible refine below_six ?_ ?_) | (with_reducible refine below_one ?_ ?_) | (with_reducible refine Below.alloc ?_ ?_ _) | (with_reducible refine below_after ?_ ?_ (by assumption)) | (show _ ≤ _; first | omega | (simp; done) | (simp; omega))))⟩
set_option maxHeartbeats 1000000 in
set_option maxRecDepth 100000 in
theorem echeck_any (b : Nat) (s : ByteArray) (a : Nat) (w : World) (h : ERd w b s a) (ha : a ≤ s.size) :
    Calls Tryz.prog 240 #[.pointer (some ⟨b, 0, none⟩)] w fun e w' => e = .returned (.int .i64 0) ∧ Below w.heap.size w w' := by
  obtain ⟨x1, x2, x3, x4, x5, x6⟩ := row_facts h
  have h1 : ¬ (s.size : Int) < (a : Int) := by omega
  have h2 : ¬ (a : Int) < 0 := by omega
  have h3 : decide ((a : Int) < 0) = false := by simp
  have h4 : decide ((s.size : Int) < (a : Int)) = false := by simp; omega
  clear h
  go_enter Tryz.func240, Tryz.ntmps240
  go_wp2
  go_quiet (fail)
  go_wp2
  go_ret
  exact ⟨rfl, by (repeat' (first | (with_reducible exact Below.refl _ _) | (with_reducible assumption) | (with_reducible refine below_run ?_ (by assumption)) | (with_reducible refine below_of_upd ?_ (by assumption) ?_) | (with_reducible refine below_drewN ?_ _) | (with_reducible refine Below.drew ?_) | (with_reducible refine below_seven ?_ ?_) | (with_reducible refine below_six ?_ ?_) | (with_reducible refine below_one ?_ ?_) | (with_reducible refine Below.alloc ?_ ?_ _) | (with_reducible refine below_after ?_ ?_ (by assumption)) | (show _ ≤ _; first | omega | (simp; done) | (simp; omega))))⟩
set_option maxHeartbeats 1000000 in
set_option maxRecDepth 100000 in
theorem etake_any (b : Nat) (s : ByteArray) (a n : Nat) (w : World) (h : ERd w b s a) (ha : a + n ≤ s.size) (hs : s.size ≤ 1000000) :
    Calls Tryz.prog 242 #[.pointer (some ⟨b, 0, none⟩), .int .i64 (n : Int)] w fun e w' => e = .returned (.string (s.extract a (a + n))) ∧ ERd w' b s (a + n) ∧ Upd b w w' := by
  obtain ⟨x1, x2, x3, x4, x5, x6⟩ := row_facts h
  have h1 : (a : Int) + (n : Int) ≤ (s.size : Int) := by omega
  have h2 : (s.size : Int) ≤ 1000000 := by omega
  have h4 : IntKind.i64.wrap ((a : Int) + (n : Int)) = (a : Int) + (n : Int) := IntWalk.i64_in _ (by omega)
  have h5 : IntKind.i64.wrap ((a : Int) + (n : Int) - (n : Int)) = (a : Int) := by rw [show (a : Int) + (n : Int) - (n : Int) = (a : Int) from by omega]; exact IntWalk.i64_in _ (by omega)
  have h6 : (a : Int) ≤ (a : Int) + (n : Int) := by omega
  have h7 : IntKind.i64.wrap (a : Int) = (a : Int) := IntWalk.i64_in _ (by omega)
  have hn : RowAt (w.setCell ⟨b, 1, none⟩ (.int .i64 ((a : Int) + (n : Int)))) b 317 #[.string s, .int .i64 ((a : Int) + (n : Int))] := RowAt.set h rfl
  have hu : Upd b w (w.setCell ⟨b, 1, none⟩ (.int .i64 ((a : Int) + (n : Int)))) := upd_set (upd_refl _ _) _ _
  have HN := Lib.hid (And.intro hn hu)
  clear h hn hu
  go_enter Tryz.func242, Tryz.ntmps242
  go_wp2
  obtain ⟨Z, hZ⟩ : ∃ Z, w.setCell ⟨b, 1, none⟩ (.int .i64 ((a : Int) + (n : Int))) = Z := ⟨_, rfl⟩
  rw [hZ] at HN ⊢
  obtain ⟨y1, y2, y3, y4, y5, y6⟩ := row_facts HN.out.1
  clear x1 x2 x3 x4 x5 x6 hZ
  go_quiet (fail)
  go_wp2
  go_ret
  refine ⟨?_, ?_, ?_⟩
  · rfl
  · have := HN.out.1
    unfold ERd
    have e : ((a + n : Nat) : Int) = (a : Int) + (n : Int) := by omega
    rw [e]
    exact RowAt.drewN this _
  · exact upd_drewN HN.out.2 _

theorem and_127 (c : UInt8) : bits BinOp.and .u8 (c.toNat : Int) 127 = ((c.toNat % 128 : Nat) : Int) := by
  have h : ∀ x : BitVec 8, (x &&& 127#8).toNat = x.toNat % 128 := by decide
  have := h c.toBitVec
  rw [BitVec.toNat_and] at this
  rw [u8_and _ _ (by omega) (by have := c.toNat_lt; omega) (by decide) (by decide)]
  simp at this ⊢
  omega
theorem ix_one (c : UInt8) (w : World) : (Instr.index 9 (.string (str [c])) (.int .i64 0)).run Tryz.prog w = .ok (.int .u8 (c.toNat : Int)) w := by kernel_rfl
theorem extract_one (s : ByteArray) (a : Nat) (h : a < s.size) : s.extract a (a + 1) = str [s[a]] := by
  apply ByteArray.ext
  apply Array.toList_inj.1
  have h1 := ByteArray.extract_mk s.data.toList a (a + 1)
  simp at h1
  rw [h1]
  have h2 : a < s.data.toList.length := by simpa using h
  show List.take 1 (List.drop a s.data.toList) = [s[a]]
  rw [List.drop_eq_getElem_cons h2]
  rfl
theorem xor_m1 (x : Nat) (hx : x < 9223372036854775808) : bits .xor .i64 (x : Int) (-1) = -(x : Int) - 1 := by
  rw [← Lib.i64_not x hx]
  show IntKind.i64.wrap ((BitVec.ofInt 64 (x : Int) ^^^ BitVec.ofInt 64 (-1)).toNat : Int) = IntKind.i64.wrap ((BitVec.ofInt 64 (-1) ^^^ BitVec.ofInt 64 (x : Int)).toNat : Int)
  rw [BitVec.xor_comm]
theorem xor_z0 (x : Nat) (hx : x < 9223372036854775808) : bits .xor .i64 (x : Int) 0 = (x : Int) := by
  show IntKind.i64.wrap ((BitVec.ofInt 64 (x : Int) ^^^ BitVec.ofInt 64 0).toNat : Int) = _
  have h1 : BitVec.ofInt 64 (x : Int) ^^^ BitVec.ofInt 64 0 = BitVec.ofInt 64 (x : Int) := by simp
  rw [h1, BitVec.ofInt_natCast, BitVec.toNat_ofNat, Nat.mod_eq_of_lt (by omega)]
  exact IntWalk.i64_in _ (by omega)
theorem w64_in {x : Int} (h : -9223372036854775808 ≤ x ∧ x ≤ 9223372036854775807) : wrap64 x = x := by
  unfold wrap64
  omega
theorem unz_prog (z : Nat) (hz : z < 18446744073709551616) : bits BinOp.xor IntKind.i64 (wrap64 ((z : Int) / 2)) (wrap64 (-wrap64 (bits BinOp.and IntKind.u64 (z : Int) 1))) = unzig z := by
  rw [Lib.u64_and1 _ (by omega) (by omega)]
  have h1 : (z : Int) / 2 = ((z / 2 : Nat) : Int) := by omega
  rw [h1, w64_in (by omega)]
  by_cases h : z % 2 = 0
  · rw [show (z : Int) % 2 = 0 from by omega, show wrap64 (-wrap64 0) = 0 from by unfold wrap64; omega, xor_z0 _ (by omega), unzig, if_pos h]
  · rw [show (z : Int) % 2 = 1 from by omega, show wrap64 (-wrap64 1) = -1 from by unfold wrap64; omega, xor_m1 _ (by omega), unzig, if_neg h]
/-- One group more. -/
theorem or_group {z i x : Nat} (hi : i ≤ 9) (hz : z < 2 ^ (7 * i)) (hx : x < 128) (h9 : i = 9 → x ≤ 1) : bits BinOp.or IntKind.u64 (z : Int) (IntKind.u64.wrap ((x : Int) * 2 ^ (7 * i))) = ((z + x * 2 ^ (7 * i) : Nat) : Int) ∧ z + x * 2 ^ (7 * i) < 18446744073709551616 ∧ (i < 9 → z + x * 2 ^ (7 * i) < 2 ^ (7 * (i + 1))) := by
  have hp : 2 ^ (7 * (i + 1)) = 128 * 2 ^ (7 * i) := by rw [show 7 * (i + 1) = 7 + 7 * i from by omega, Nat.pow_add]
  have h1 : x * 2 ^ (7 * i) ≤ 127 * 2 ^ (7 * i) := Nat.mul_le_mul_right _ (by omega)
  have hb : z + x * 2 ^ (7 * i) < 18446744073709551616 := by
    by_cases e : i = 9
    · subst e
      have h2 := h9 rfl
      have h3 : x * 2 ^ (7 * 9) ≤ 1 * 2 ^ (7 * 9) := Nat.mul_le_mul_right _ h2
      have e2 : (2 : Nat) ^ (7 * 9) = 9223372036854775808 := by decide
      rw [e2] at *
      omega
    · have h2 : 2 ^ (7 * (i + 1)) ≤ 2 ^ 63 := Nat.pow_le_pow_right (by decide) (by omega)
      have e2 : (2 : Nat) ^ 63 = 9223372036854775808 := by decide
      rw [e2] at h2
      omega
  have hc : ((x : Int) * 2 ^ (7 * i)) = ((x * 2 ^ (7 * i) : Nat) : Int) := by simp
  refine ⟨?_, hb, fun h => by omega⟩
  rw [hc, IntKind.wrap_u64, show ((x * 2 ^ (7 * i) : Nat) : Int) % 18446744073709551616 = ((x * 2 ^ (7 * i) : Nat) : Int) from by omega, bits_or_u64_nat _ _ (by omega) (by omega)]
  congr 1
  have h4 := Nat.two_pow_add_eq_or_of_lt hz x
  rw [Nat.or_comm, Nat.mul_comm x, ← h4]
  omega

/-- What the reader says of an int. -/
def IntPost (b : Nat) (s : ByteArray) (a : Nat) (w : World) (e : Ending) (w' : World) : Prop :=
  match getI s a with
  | .ok (n, nx) => e = .returned (.tuple #[.int .i64 n, .int .i64 0]) ∧ ERd w' b s nx ∧ Upd b w w'
  | .error c => e = .returned (.tuple #[.int .i64 0, .int .i64 c]) ∧ (∃ x, ERd w' b s x) ∧ Upd b w w'
theorem intPost_ok {b : Nat} {s : ByteArray} {a z c : Nat} {w w' : World} {e : Ending} (h : gz 0 0 (s.data.toList.drop a) = .ok (z, c)) (he : e = .returned (.tuple #[.int .i64 (unzig z), .int .i64 0])) (hr : ERd w' b s (a + c)) (hu : Upd b w w') : IntPost b s a w e w' := by
  unfold IntPost getI
  rw [h]
  exact ⟨he, hr, hu⟩
theorem intPost_err {b : Nat} {s : ByteArray} {a x : Nat} {c : Int} {w w' : World} {e : Ending} (h : gz 0 0 (s.data.toList.drop a) = .error c) (he : e = .returned (.tuple #[.int .i64 0, .int .i64 c])) (hr : ERd w' b s x) (hu : Upd b w w') : IntPost b s a w e w' := by
  unfold IntPost getI
  rw [h]
  exact ⟨he, ⟨x, hr⟩, hu⟩
theorem drop_at {s : ByteArray} {a : Nat} (h : a < s.size) : s.data.toList.drop a = s[a] :: s.data.toList.drop (a + 1) := by
  have h2 : a < s.data.toList.length := by simpa using h
  rw [List.drop_eq_getElem_cons h2]
  rfl

set_option maxHeartbeats 4000000 in
set_option maxRecDepth 100000 in
theorem eintR_any (b : Nat) (s : ByteArray) (a : Nat) (w : World) (h : ERd w b s a) (ha : a ≤ s.size) (hs : s.size ≤ 1000000) :
    Calls Tryz.prog 296 #[.pointer (some ⟨b, 0, none⟩)] w fun e w' => IntPost b s a w e w' := by
  go_enter Tryz.func296, Tryz.ntmps296
  go_wp2
  go_step3
  go_wp2
  go_step3
  go_wp2
  go_loopw [4, 5, 6] (fun s4 s5 _ wr => ∃ (i z : Nat), i ≤ 9 ∧ s4 = .int .u64 (z : Int) ∧ s5 = .int .i64 (7 * (i : Int)) ∧ a + i ≤ s.size ∧ ERd wr b s (a + i) ∧ Upd b w wr ∧ Hid (z < 2 ^ (7 * i) ∧ gz 0 0 (s.data.toList.drop a) = gz i z (s.data.toList.drop (a + i)))) (fun _ s5 _ _ => 70 - (intOf s5).toNat)
  case atStart => exact ⟨0, 0, by omega, rfl, rfl, by omega, h, upd_refl _ _, Lib.hid ⟨by simp, rfl⟩⟩
  case round =>
    obtain ⟨i, z, hi, rfl, rfl, hai, hr, hu, hz⟩ := hrel
    by_cases hend : a + i < s.size
    · have hd : decide ((1 : Int) ≤ (s.size : Int) - ((a + i : Nat) : Int)) = true := by simp; omega
      have C1 := fun W (hw : ERd W b s (a + i)) => ehas_any b s (a + i) 1 W hw (by omega) hs (by omega)
      rw [hd] at C1
      have C2 := fun W (hw : ERd W b s (a + i)) => etake_any b s (a + i) 1 W hw (by omega) hs
      rw [extract_one s (a + i) hend] at C2
      have HZ1 := drop_at hend
      obtain ⟨c, hc⟩ : ∃ c, s[a + i] = c := ⟨_, rfl⟩
      rw [hc] at C2 HZ1
      have H1 := Lib.hid C1
      have H2 := Lib.hid C2
      have HD := Lib.hid HZ1
      have hix := fun W => ix_one c W
      have hand := and_127 c
      have i0 : (0 : Int) ≤ 7 * (i : Int) := by omega
      have hcl := c.toNat_lt
      have HU := Lib.hid hu
      clear C1 C2 hd hc h HZ1 hu
      obtain ⟨y, hy⟩ : ∃ y, c.toNat = y := ⟨_, rfl⟩
      have HY := Lib.hid hy
      rw [hy] at hix hand hcl
      clear hy
      by_cases k1 : 128 ≤ y ∧ i < 9
      · obtain ⟨g1, g2, g3⟩ := or_group (z := z) (i := i) (x := y % 128) hi hz.out.1 (by omega) (by omega)
        have t1 : ((7 * (i : Int)) == 63) = false := by rw [beq_eq_false_iff_ne]; omega
        have t2 : ((y : Int) == 0) = false := by rw [beq_eq_false_iff_ne]; omega
        have t3 : ¬ (y : Int) < 128 := by omega
        have hstep : gz 0 0 (s.data.toList.drop a) = gz (i + 1) (z + y % 128 * 2 ^ (7 * i)) (s.data.toList.drop (a + i + 1)) := by rw [hz.out.2, HD.out, gz, if_pos (by rw [HY.out]; exact k1), HY.out]
        have g4 := g3 k1.2
        have hor : bits BinOp.or IntKind.u64 (z : Int) (IntKind.u64.wrap ((y : Int) % 128 * 2 ^ (7 * i))) = ((z + y % 128 * 2 ^ (7 * i) : Nat) : Int) := by rw [← g1]; congr 3
        obtain ⟨z2, hz2⟩ : ∃ z2, z + y % 128 * 2 ^ (7 * i) = z2 := ⟨_, rfl⟩
        rw [hz2] at g2 g4 hor hstep
        have HS := Lib.hid (And.intro g4 hstep)
        have k2 := k1.2
        clear g1 g3 g4 hstep hz2 hand
        have hand := and_127 c
        rw [HY.out] at hand
        go_wp2_with fail
        refine (H1.out _ hr).mono ?_
        rintro e w1 ⟨rfl, hb1⟩
        go_wp2_with fail
        refine (H2.out _ (RowAt.run hr hb1)).mono ?_
        rintro e w2 ⟨rfl, hr2, hu2⟩
        have hu3 := Lib.hid (upd_upd (upd_below HU.out hb1) hu2)
        clear hu2 hb1
        go_wp2
        go_roundw
        case rel => exact ⟨i + 1, z2, by omega, rfl, by go_num, by omega, hr2, hu3.out, HS⟩
        case measure => simp [intOf]; omega
      · by_cases k2 : (0 < i ∧ y = 0) ∨ (i = 9 ∧ 1 < y)
        · have hstep : gz 0 0 (s.data.toList.drop a) = .error 3 := by rw [hz.out.2, HD.out, gz, if_neg (by rw [HY.out]; exact k1), if_pos (by rw [HY.out]; exact k2)]
          have HS := Lib.hid hstep
          clear hstep
          by_cases k3 : i = 9 ∧ 1 < y
          · have t1 : ((7 * (i : Int)) == 63) = true := by rw [beq_iff_eq]; omega
            have t2 : (1 : Int) < (y : Int) := by omega
            have HK := Lib.hid (And.intro k1 (And.intro k2 k3))
            clear k1 k2 k3
            go_wp2_with fail
            refine (H1.out _ hr).mono ?_
            rintro e w1 ⟨rfl, hb1⟩
            go_wp2_with fail
            refine (H2.out _ (RowAt.run hr hb1)).mono ?_
            rintro e w2 ⟨rfl, hr2, hu2⟩
            have hu3 := Lib.hid (upd_upd (upd_below HU.out hb1) hu2)
            clear hu2 hb1
            go_wp2
            rw [Exit.noGoto_ret]
            go_ret2
            exact intPost_err HS.out rfl hr2 hu3.out
          · have t2 : ((y : Int) == 0) = true := by rw [beq_iff_eq]; omega
            have t3 : ¬ (1 : Int) < (y : Int) := by omega
            have t4 : (0 : Int) < 7 * (i : Int) := by omega
            obtain rfl : y = 0 := by omega
            have HK := Lib.hid (And.intro k1 (And.intro k2 k3))
            clear k1 k2 k3
            by_cases t1 : i = 9
            · have t5 : ((7 * (i : Int)) == 63) = true := by rw [beq_iff_eq]; omega
              have T1 := Lib.hid t1
              clear t1
              go_wp2_with fail
              refine (H1.out _ hr).mono ?_
              rintro e w1 ⟨rfl, hb1⟩
              go_wp2_with fail
              refine (H2.out _ (RowAt.run hr hb1)).mono ?_
              rintro e w2 ⟨rfl, hr2, hu2⟩
              have hu3 := Lib.hid (upd_upd (upd_below HU.out hb1) hu2)
              clear hu2 hb1
              go_wp2
              rw [Exit.noGoto_ret]
              go_ret2
              exact intPost_err HS.out rfl hr2 hu3.out
            · have t5 : ((7 * (i : Int)) == 63) = false := by rw [beq_eq_false_iff_ne]; omega
              have T1 := Lib.hid t1
              clear t1
              go_wp2_with fail
              refine (H1.out _ hr).mono ?_
              rintro e w1 ⟨rfl, hb1⟩
              go_wp2_with fail
              refine (H2.out _ (RowAt.run hr hb1)).mono ?_
              rintro e w2 ⟨rfl, hr2, hu2⟩
              have hu3 := Lib.hid (upd_upd (upd_below HU.out hb1) hu2)
              clear hu2 hb1
              go_wp2
              rw [Exit.noGoto_ret]
              go_ret2
              exact intPost_err HS.out rfl hr2 hu3.out
        · obtain ⟨g1, g2, -⟩ := or_group (z := z) (i := i) (x := y) hi hz.out.1 (by omega) (by omega)
          have hstep : gz 0 0 (s.data.toList.drop a) = .ok (z + y * 2 ^ (7 * i), i + 1) := by rw [hz.out.2, HD.out, gz, if_neg (by rw [HY.out]; exact k1), if_neg (by rw [HY.out]; exact k2), HY.out]
          have hm : (y : Int) % 128 = (y : Int) := by omega
          have hor : bits BinOp.or IntKind.u64 (z : Int) (IntKind.u64.wrap ((y : Int) % 128 * 2 ^ (7 * i))) = ((z + y * 2 ^ (7 * i) : Nat) : Int) := by rw [hm]; exact g1
          have hor2 : bits BinOp.or IntKind.u64 (z : Int) (IntKind.u64.wrap ((y : Int) * 2 ^ (7 * i))) = ((z + y * 2 ^ (7 * i) : Nat) : Int) := g1
          obtain ⟨z2, hz2⟩ : ∃ z2, z + y * 2 ^ (7 * i) = z2 := ⟨_, rfl⟩
          rw [hz2] at g2 hor hor2 hstep
          have HS := Lib.hid hstep
          have t2 : (y : Int) < 128 := by omega
          have huz := unz_prog z2 g2
          obtain ⟨n, hn⟩ : ∃ n, unzig z2 = n := ⟨_, rfl⟩
          rw [hn] at huz
          have HN := Lib.hid hn
          have hmn : (y % 128 : Nat) = y := by omega
          rw [hmn] at hand
          have HG := Lib.hid g2
          clear hstep hz2 g1 hn g2 hmn hm
          by_cases k3 : i = 9
          · have t1 : ((7 * (i : Int)) == 63) = true := by rw [beq_iff_eq]; omega
            have t3 : ¬ (1 : Int) < (y : Int) := by omega
            have t4 : ((y : Int) == 0) = false := by rw [beq_eq_false_iff_ne]; omega
            have HK := Lib.hid (And.intro k1 (And.intro k2 k3))
            clear k1 k2 k3
            go_wp2_with fail
            refine (H1.out _ hr).mono ?_
            rintro e w1 ⟨rfl, hb1⟩
            go_wp2_with fail
            refine (H2.out _ (RowAt.run hr hb1)).mono ?_
            rintro e w2 ⟨rfl, hr2, hu2⟩
            have hu3 := Lib.hid (upd_upd (upd_below HU.out hb1) hu2)
            clear hu2 hb1
            go_wp2
            rw [Exit.noGoto_ret]
            go_ret2
            exact intPost_ok HS.out (by rw [HN.out]; rfl) hr2 hu3.out
          · have t1 : ((7 * (i : Int)) == 63) = false := by rw [beq_eq_false_iff_ne]; omega
            by_cases k4 : y = 0
            · have t4 : ((y : Int) == 0) = true := by rw [beq_iff_eq]; omega
              have t5 : ¬ (0 : Int) < 7 * (i : Int) := by omega
              have HK := Lib.hid (And.intro k1 (And.intro k2 (And.intro k3 k4)))
              clear k1 k2 k3 k4
              go_wp2_with fail
              refine (H1.out _ hr).mono ?_
              rintro e w1 ⟨rfl, hb1⟩
              go_wp2_with fail
              refine (H2.out _ (RowAt.run hr hb1)).mono ?_
              rintro e w2 ⟨rfl, hr2, hu2⟩
              have hu3 := Lib.hid (upd_upd (upd_below HU.out hb1) hu2)
              clear hu2 hb1
              go_wp2
              rw [Exit.noGoto_ret]
              go_ret2
              exact intPost_ok HS.out (by rw [HN.out]; rfl) hr2 hu3.out
            · have t4 : ((y : Int) == 0) = false := by rw [beq_eq_false_iff_ne]; omega
              have HK := Lib.hid (And.intro k1 (And.intro k2 (And.intro k3 k4)))
              clear k1 k2 k3 k4
              go_wp2_with fail
              refine (H1.out _ hr).mono ?_
              rintro e w1 ⟨rfl, hb1⟩
              go_wp2_with fail
              refine (H2.out _ (RowAt.run hr hb1)).mono ?_
              rintro e w2 ⟨rfl, hr2, hu2⟩
              have hu3 := Lib.hid (upd_upd (upd_below HU.out hb1) hu2)
              clear hu2 hb1
              go_wp2
              rw [Exit.noGoto_ret]
              go_ret2
              exact intPost_ok HS.out (by rw [HN.out]; rfl) hr2 hu3.out
    · have he : a + i = s.size := by omega
      have hd : decide ((1 : Int) ≤ (s.size : Int) - ((a + i : Nat) : Int)) = false := by simp; omega
      have C1 := fun W (hw : ERd W b s (a + i)) => ehas_any b s (a + i) 1 W hw (by omega) hs (by omega)
      rw [hd] at C1
      have H1 := Lib.hid C1
      have HS := Lib.hid (show gz 0 0 (s.data.toList.drop a) = .error 20 from by rw [hz.out.2, List.drop_eq_nil_of_le (by simp; omega)]; rfl)
      have HU := Lib.hid hu
      clear C1 hd he h hu
      go_wp2_with fail
      refine (H1.out _ hr).mono ?_
      rintro e w1 ⟨rfl, hb1⟩
      have hr1 := Lib.hid (RowAt.run hr hb1)
      have hu3 := Lib.hid (upd_below HU.out hb1)
      clear hb1
      go_wp2
      rw [Exit.noGoto_ret]
      go_ret2
      exact intPost_err HS.out rfl hr1.out hu3.out
end Go.Proofs.YtjeigphhepngmaaGreatDoor
