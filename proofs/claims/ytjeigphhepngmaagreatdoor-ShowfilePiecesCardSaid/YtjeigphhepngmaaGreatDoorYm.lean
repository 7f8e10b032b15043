/- -/
import Derived.WalkMore
import Derived.Lib.Zigzag
import Derived.Test.YtjeigphhepngmaaGreatDoorYe
import Derived.StillTailTactics
import Derived.Test.YtjeigphhepngmaaGreatDoorJb
import Derived.Laws.IdiomStrings
namespace Go.Proofs.YtjeigphhepngmaaGreatDoor
open Go.RowKit
open Go.Lib (hid)
set_option maxHeartbeats 8000000
set_option maxRecDepth 100000
def ERd (w : World) (b : Nat) (s : ByteArray) (a : Nat) : Prop := RowAt w b 317 #[.string s, .int .i64 (a : Int)]
theorem zdi (b : Nat) (s : ByteArray) (a : Nat) (n : Int) (w : World) (h : ERd w b s a) (ha : a ≤ s.size) (hs : s.size ≤ 1000000) (_hn : -1000000 ≤ n ∧ n ≤ 1000000) :
  Calls Tryz.prog 241 #[.pointer (some ⟨b, 0, none⟩), .int .i64 n] w fun e w' => e = .returned (.bool (decide (n ≤ (s.size : Int) - (a : Int)))) ∧ Below w.heap.size w w' := by
 obtain ⟨x1, x2, x3, x4, x5, x6⟩ := zaa h
 have h1 : (a : Int) ≤ (s.size : Int) := by omega
 have h2 : (s.size : Int) ≤ 1000000 := by omega
 have h3 : IntKind.i64.wrap ((s.size : Int) - (a : Int)) = (s.size : Int) - (a : Int) := IntWalk.i64_in _ (by omega)
 clear h
 go_enter Tryz.func241, Tryz.ntmps241
 go_wp2
 go_quiet (fail)
 go_wp2
 go_ret
 exact ⟨rfl, bel⟩
theorem zfa (b : Nat) (s : ByteArray) (a : Nat) (w : World) (h : ERd w b s a) (ha : a ≤ s.size) :
  Calls Tryz.prog 240 #[.pointer (some ⟨b, 0, none⟩)] w fun e w' => e = .returned (.int .i64 0) ∧ Below w.heap.size w w' := by
 obtain ⟨x1, x2, x3, x4, x5, x6⟩ := zaa h
 have h1 : ¬ (s.size : Int) < (a : Int) := by omega
 have h2 : ¬ (a : Int) < 0 := by omega
 have h3 : decide ((a : Int) < 0) = false := by simp
 have h4 : decide ((s.size : Int) < (a : Int)) = false := by simp; omega
 clear h
 go_enter Tryz.func240, Tryz.ntmps240
 go_wp2
 go_quiet (fail)
 go_wp2
 go_ret
 exact ⟨rfl, bel⟩
theorem zc4 (b : Nat) (s : ByteArray) (a n : Nat) (w : World) (h : ERd w b s a) (ha : a + n ≤ s.size) (hs : s.size ≤ 1000000) :
   Calls Tryz.prog 242 #[.pointer (some ⟨b, 0, none⟩), .int .i64 (n : Int)] w fun e w' => e = .returned (.string (s.extract a (a + n))) ∧ ERd w' b s (a + n) ∧ Upd b w w' := by
 obtain ⟨x1, x2, x3, x4, x5, x6⟩ := zaa h
 have h1 : (a : Int) + (n : Int) ≤ (s.size : Int) := by omega
 have h2 : (s.size : Int) ≤ 1000000 := by omega
 have h4 : IntKind.i64.wrap ((a : Int) + (n : Int)) = (a : Int) + (n : Int) := IntWalk.i64_in _ (by omega)
 have h5 : IntKind.i64.wrap ((a : Int) + (n : Int) - (n : Int)) = (a : Int) := by rw [show (a : Int) + (n : Int) - (n : Int) = (a : Int) from by omega]; exact IntWalk.i64_in _ (by omega)
 have h6 : (a : Int) ≤ (a : Int) + (n : Int) := by omega
 have h7 : IntKind.i64.wrap (a : Int) = (a : Int) := IntWalk.i64_in _ (by omega)
 have hn : RowAt (w.setCell ⟨b, 1, none⟩ (.int .i64 ((a : Int) + (n : Int)))) b 317 #[.string s, .int .i64 ((a : Int) + (n : Int))] := RowAt.set h rfl
 have hu : Upd b w (w.setCell ⟨b, 1, none⟩ (.int .i64 ((a : Int) + (n : Int)))) := zav (za5 _ _) _ _
 have HN := hid (And.intro hn hu)
 clear h hn hu
 go_enter Tryz.func242, Tryz.ntmps242
 go_wp2
 obtain ⟨Z, hZ⟩ : ∃ Z, w.setCell ⟨b, 1, none⟩ (.int .i64 ((a : Int) + (n : Int))) = Z := ⟨_, rfl⟩
 rw [hZ] at HN ⊢
 obtain ⟨y1, y2, y3, y4, y5, y6⟩ := zaa HN.out.1
 clear x1 x2 x3 x4 x5 x6 hZ
 go_quiet (fail)
 go_wp2
 go_ret
 refine ⟨?_, ?_, ?_⟩
 · rfl
 · have := HN.out.1
   unfold ERd
   have e : ((a + n : Nat) : Int) = (a : Int) + (n : Int) := by omega
   rw [e]
   exact RowAt.drewN this _
 exact zfi HN.out.2 _
theorem zjs (c : UInt8) : bits BinOp.and .u8 (c.toNat : Int) 127 = ((c.toNat % 128 : Nat) : Int) := by
 have h : ∀ x : BitVec 8, (x &&& 127#8).toNat = x.toNat % 128 := by decide
 have := h c.toBitVec
 rw [BitVec.toNat_and] at this
 rw [u8_and _ _ (by omega) (by have := c.toNat_lt; omega) (by decide) (by decide)]
 simp at this ⊢
 omega
theorem zop (c : UInt8) (w : World) : (Instr.index 9 (.string (str [c])) (.int .i64 0)).run Tryz.prog w = .ok (.int .u8 (c.toNat : Int)) w := by kernel_rfl
theorem zx7 (s : ByteArray) (a : Nat) (h : a < s.size) : s.extract a (a + 1) = str [s[a]] := by
 apply ByteArray.ext
 apply Array.toList_inj.1
 have h1 := ByteArray.extract_mk s.data.toList a (a + 1)
 simp at h1
 rw [h1]
 have h2 : a < s.data.toList.length := by simpa using h
 show List.take 1 (List.drop a s.data.toList) = [s[a]]
 rw [List.drop_eq_getElem_cons h2]
 rfl
theorem zub (x : Nat) (hx : x < 9223372036854775808) : bits .xor .i64 (x : Int) (-1) = -(x : Int) - 1 := by
 rw [← Lib.i64_not x hx]
 show IntKind.i64.wrap ((BitVec.ofInt 64 (x : Int) ^^^ BitVec.ofInt 64 (-1)).toNat : Int) = IntKind.i64.wrap ((BitVec.ofInt 64 (-1) ^^^ BitVec.ofInt 64 (x : Int)).toNat : Int)
 rw [BitVec.xor_comm]
theorem zs4 (x : Nat) (hx : x < 9223372036854775808) : bits .xor .i64 (x : Int) 0 = (x : Int) := by
 show IntKind.i64.wrap ((BitVec.ofInt 64 (x : Int) ^^^ BitVec.ofInt 64 0).toNat : Int) = _
 have h1 : BitVec.ofInt 64 (x : Int) ^^^ BitVec.ofInt 64 0 = BitVec.ofInt 64 (x : Int) := by simp
 rw [h1, BitVec.ofInt_natCast, BitVec.toNat_ofNat, Nat.mod_eq_of_lt (by omega)]
 exact IntWalk.i64_in _ (by omega)
theorem zxh {x : Int} (h : -9223372036854775808 ≤ x ∧ x ≤ 9223372036854775807) : wrap64 x = x := by
 unfold wrap64
 omega
theorem zpc (z : Nat) (hz : z < 18446744073709551616) : bits BinOp.xor IntKind.i64 (wrap64 ((z : Int) / 2)) (wrap64 (-wrap64 (bits BinOp.and IntKind.u64 (z : Int) 1))) = unzig z := by
 rw [Lib.u64_and1 _ (by omega) (by omega)]
 have h1 : (z : Int) / 2 = ((z / 2 : Nat) : Int) := by omega
 rw [h1, zxh (by omega)]
 by_cases h : z % 2 = 0
 · rw [show (z : Int) % 2 = 0 from by omega, show wrap64 (-wrap64 0) = 0 from by unfold wrap64; omega, zs4 _ (by omega), unzig, if_pos h]
 rw [show (z : Int) % 2 = 1 from by omega, show wrap64 (-wrap64 1) = -1 from by unfold wrap64; omega, zub _ (by omega), unzig, if_neg h]
theorem ziv {z i x : Nat} (hi : i ≤ 9) (hz : z < 2 ^ (7 * i)) (hx : x < 128) (h9 : i = 9 → x ≤ 1) : bits BinOp.or IntKind.u64 (z : Int) (IntKind.u64.wrap ((x : Int) * 2 ^ (7 * i))) = ((z + x * 2 ^ (7 * i) : Nat) : Int) ∧ z + x * 2 ^ (7 * i) < 18446744073709551616 ∧ (i < 9 → z + x * 2 ^ (7 * i) < 2 ^ (7 * (i + 1))) := by
 have hp : 2 ^ (7 * (i + 1)) = 128 * 2 ^ (7 * i) := by rw [show 7 * (i + 1) = 7 + 7 * i from by omega, Nat.pow_add]
 have h1 : x * 2 ^ (7 * i) ≤ 127 * 2 ^ (7 * i) := Nat.mul_le_mul_right _ (by omega)
 have hb : z + x * 2 ^ (7 * i) < 18446744073709551616 := by
  by_cases e : i = 9
  · subst e
    have h2 := h9 rfl
    have h3 : x * 2 ^ (7 * 9) ≤ 1 * 2 ^ (7 * 9) := Nat.mul_le_mul_right _ h2
    have e2 : (2 : Nat) ^ (7 * 9) = 9223372036854775808 := by decide
    rw [e2] at *
    omega
  have h2 : 2 ^ (7 * (i + 1)) ≤ 2 ^ 63 := Nat.pow_le_pow_right (by decide) (by omega)
  have e2 : (2 : Nat) ^ 63 = 9223372036854775808 := by decide
  rw [e2] at h2
  omega
 have hc : ((x : Int) * 2 ^ (7 * i)) = ((x * 2 ^ (7 * i) : Nat) : Int) := by simp
 refine ⟨?_, hb, fun h => by omega⟩
 rw [hc, IntKind.wrap_u64, show ((x * 2 ^ (7 * i) : Nat) : Int) % 18446744073709551616 = ((x * 2 ^ (7 * i) : Nat) : Int) from by omega, bits_or_u64_nat _ _ (by omega) (by omega)]
 congr 1
 have h4 := Nat.two_pow_add_eq_or_of_lt hz x
 rw [Nat.or_comm, Nat.mul_comm x, ← h4]
 omega
def IntPost (b : Nat) (s : ByteArray) (a : Nat) (w : World) (e : Ending) (w' : World) : Prop :=
 match getI s a with
 | .ok (n, nx) => e = .returned (.tuple #[.int .i64 n, .int .i64 0]) ∧ ERd w' b s nx ∧ Upd b w w'
 | .error c => e = .returned (.tuple #[.int .i64 0, .int .i64 c]) ∧ (∃ x, ERd w' b s x) ∧ Upd b w w'
theorem zgq {b : Nat} {s : ByteArray} {a z c : Nat} {w w' : World} {e : Ending} (h : gz 0 0 (s.data.toList.drop a) = .ok (z, c)) (he : e = .returned (.tuple #[.int .i64 (unzig z), .int .i64 0])) (hr : ERd w' b s (a + c)) (hu : Upd b w w') : IntPost b s a w e w' := by
 unfold IntPost getI
 rw [h]
 exact ⟨he, hr, hu⟩
theorem zek {b : Nat} {s : ByteArray} {a x : Nat} {c : Int} {w w' : World} {e : Ending} (h : gz 0 0 (s.data.toList.drop a) = .error c) (he : e = .returned (.tuple #[.int .i64 0, .int .i64 c])) (hr : ERd w' b s x) (hu : Upd b w w') : IntPost b s a w e w' := by
 unfold IntPost getI
 rw [h]
 exact ⟨he, ⟨x, hr⟩, hu⟩
theorem zwl {s : ByteArray} {a : Nat} (h : a < s.size) : s.data.toList.drop a = s[a] :: s.data.toList.drop (a + 1) := by
 have h2 : a < s.data.toList.length := by simpa using h
 rw [List.drop_eq_getElem_cons h2]
 rfl
theorem zju (b : Nat) (s : ByteArray) (a : Nat) (w : World) (h : ERd w b s a) (ha : a ≤ s.size) (hs : s.size ≤ 1000000) :
  Calls Tryz.prog 296 #[.pointer (some ⟨b, 0, none⟩)] w fun e w' => IntPost b s a w e w' := by
 go_enter Tryz.func296, Tryz.ntmps296
 go_wp2
 go_step3
 go_wp2
 go_step3
 go_wp2
 go_loopw [4, 5, 6] (fun s4 s5 _ wr => ∃ (i z : Nat), i ≤ 9 ∧ s4 = .int .u64 (z : Int) ∧ s5 = .int .i64 (7 * (i : Int)) ∧ a + i ≤ s.size ∧ ERd wr b s (a + i) ∧ Upd b w wr ∧ Hid (z < 2 ^ (7 * i) ∧ gz 0 0 (s.data.toList.drop a) = gz i z (s.data.toList.drop (a + i)))) (fun _ s5 _ _ => 70 - (intOf s5).toNat)
 case atStart => exact ⟨0, 0, by omega, rfl, rfl, by omega, h, za5 _ _, hid ⟨by simp, rfl⟩⟩
 case round =>
  obtain ⟨i, z, hi, rfl, rfl, hai, hr, hu, hz⟩ := hrel
  by_cases hend : a + i < s.size
  · have hd : decide ((1 : Int) ≤ (s.size : Int) - ((a + i : Nat) : Int)) = true := by simp; omega
    have C1 := fun W (hw : ERd W b s (a + i)) => zdi b s (a + i) 1 W hw (by omega) hs (by omega)
    rw [hd] at C1
    have C2 := fun W (hw : ERd W b s (a + i)) => zc4 b s (a + i) 1 W hw (by omega) hs
    rw [zx7 s (a + i) hend] at C2
    have HZ1 := zwl hend
    obtain ⟨c, hc⟩ : ∃ c, s[a + i] = c := ⟨_, rfl⟩
    rw [hc] at C2 HZ1
    have H1 := hid C1
    have H2 := hid C2
    have HD := hid HZ1
    have hix := fun W => zop c W
    have hand := zjs c
    have i0 : (0 : Int) ≤ 7 * (i : Int) := by omega
    have hcl := c.toNat_lt
    have HU := hid hu
    clear C1 C2 hd hc h HZ1 hu
    obtain ⟨y, hy⟩ : ∃ y, c.toNat = y := ⟨_, rfl⟩
    have HY := hid hy
    rw [hy] at hix hand hcl
    clear hy
    by_cases k1 : 128 ≤ y ∧ i < 9
    · obtain ⟨g1, g2, g3⟩ := ziv (z := z) (i := i) (x := y % 128) hi hz.out.1 (by omega) (by omega)
      have t1 : ((7 * (i : Int)) == 63) = false := by rw [beq_eq_false_iff_ne]; omega
      have t2 : ((y : Int) == 0) = false := by rw [beq_eq_false_iff_ne]; omega
      have t3 : ¬ (y : Int) < 128 := by omega
      have hstep : gz 0 0 (s.data.toList.drop a) = gz (i + 1) (z + y % 128 * 2 ^ (7 * i)) (s.data.toList.drop (a + i + 1)) := by rw [hz.out.2, HD.out, gz, if_pos (by rw [HY.out]; exact k1), HY.out]
      have g4 := g3 k1.2
      have hor : bits BinOp.or IntKind.u64 (z : Int) (IntKind.u64.wrap ((y : Int) % 128 * 2 ^ (7 * i))) = ((z + y % 128 * 2 ^ (7 * i) : Nat) : Int) := by rw [← g1]; congr 3
      obtain ⟨z2, hz2⟩ : ∃ z2, z + y % 128 * 2 ^ (7 * i) = z2 := ⟨_, rfl⟩
      rw [hz2] at g2 g4 hor hstep
      have HS := hid (And.intro g4 hstep)
      have k2 := k1.2
      clear g1 g3 g4 hstep hz2 hand
      have hand := zjs c
      rw [HY.out] at hand
      go_wp2_with fail
      refine (H1.out _ hr).mono ?_
      rintro e w1 ⟨rfl, hb1⟩
      go_wp2_with fail
      refine (H2.out _ (RowAt.run hr hb1)).mono ?_
      rintro e w2 ⟨rfl, hr2, hu2⟩
      have hu3 := hid (zbh (zbp HU.out hb1) hu2)
      clear hu2 hb1
      go_wp2
      go_roundw
      case rel => exact ⟨i + 1, z2, by omega, rfl, by go_num, by omega, hr2, hu3.out, HS⟩
      case measure => simp [intOf]; omega
    by_cases k2 : (0 < i ∧ y = 0) ∨ (i = 9 ∧ 1 < y)
    · have hstep : gz 0 0 (s.data.toList.drop a) = .error 3 := by rw [hz.out.2, HD.out, gz, if_neg (by rw [HY.out]; exact k1), if_pos (by rw [HY.out]; exact k2)]
      have HS := hid hstep
      clear hstep
      by_cases k3 : i = 9 ∧ 1 < y
      · have t1 : ((7 * (i : Int)) == 63) = true := by rw [beq_iff_eq]; omega
        have t2 : (1 : Int) < (y : Int) := by omega
        have HK := hid (And.intro k1 (And.intro k2 k3))
        clear k1 k2 k3
        go_wp2_with fail
        refine (H1.out _ hr).mono ?_
        rintro e w1 ⟨rfl, hb1⟩
        go_wp2_with fail
        refine (H2.out _ (RowAt.run hr hb1)).mono ?_
        rintro e w2 ⟨rfl, hr2, hu2⟩
        have hu3 := hid (zbh (zbp HU.out hb1) hu2)
        clear hu2 hb1
        go_wp2
        rw [Exit.noGoto_ret]
        go_ret2
        exact zek HS.out rfl hr2 hu3.out
      have t2 : ((y : Int) == 0) = true := by rw [beq_iff_eq]; omega
      have t3 : ¬ (1 : Int) < (y : Int) := by omega
      have t4 : (0 : Int) < 7 * (i : Int) := by omega
      obtain rfl : y = 0 := by omega
      have HK := hid (And.intro k1 (And.intro k2 k3))
      clear k1 k2 k3
      by_cases t1 : i = 9
      · have t5 : ((7 * (i : Int)) == 63) = true := by rw [beq_iff_eq]; omega
        have T1 := hid t1
        clear t1
        go_wp2_with fail
        refine (H1.out _ hr).mono ?_
        rintro e w1 ⟨rfl, hb1⟩
        go_wp2_with fail
        refine (H2.out _ (RowAt.run hr hb1)).mono ?_
        rintro e w2 ⟨rfl, hr2, hu2⟩
        have hu3 := hid (zbh (zbp HU.out hb1) hu2)
        clear hu2 hb1
        go_wp2
        rw [Exit.noGoto_ret]
        go_ret2
        exact zek HS.out rfl hr2 hu3.out
      have t5 : ((7 * (i : Int)) == 63) = false := by rw [beq_eq_false_iff_ne]; omega
      have T1 := hid t1
      clear t1
      go_wp2_with fail
      refine (H1.out _ hr).mono ?_
      rintro e w1 ⟨rfl, hb1⟩
      go_wp2_with fail
      refine (H2.out _ (RowAt.run hr hb1)).mono ?_
      rintro e w2 ⟨rfl, hr2, hu2⟩
      have hu3 := hid (zbh (zbp HU.out hb1) hu2)
      clear hu2 hb1
      go_wp2
      rw [Exit.noGoto_ret]
      go_ret2
      exact zek HS.out rfl hr2 hu3.out
    obtain ⟨g1, g2, -⟩ := ziv (z := z) (i := i) (x := y) hi hz.out.1 (by omega) (by omega)
    have hstep : gz 0 0 (s.data.toList.drop a) = .ok (z + y * 2 ^ (7 * i), i + 1) := by rw [hz.out.2, HD.out, gz, if_neg (by rw [HY.out]; exact k1), if_neg (by rw [HY.out]; exact k2), HY.out]
    have hm : (y : Int) % 128 = (y : Int) := by omega
    have hor : bits BinOp.or IntKind.u64 (z : Int) (IntKind.u64.wrap ((y : Int) % 128 * 2 ^ (7 * i))) = ((z + y * 2 ^ (7 * i) : Nat) : Int) := by rw [hm]; exact g1
    have hor2 : bits BinOp.or IntKind.u64 (z : Int) (IntKind.u64.wrap ((y : Int) * 2 ^ (7 * i))) = ((z + y * 2 ^ (7 * i) : Nat) : Int) := g1
    obtain ⟨z2, hz2⟩ : ∃ z2, z + y * 2 ^ (7 * i) = z2 := ⟨_, rfl⟩
    rw [hz2] at g2 hor hor2 hstep
    have HS := hid hstep
    have t2 : (y : Int) < 128 := by omega
    have huz := zpc z2 g2
    obtain ⟨n, hn⟩ : ∃ n, unzig z2 = n := ⟨_, rfl⟩
    rw [hn] at huz
    have HN := hid hn
    have hmn : (y % 128 : Nat) = y := by omega
    rw [hmn] at hand
    have HG := hid g2
    clear hstep hz2 g1 hn g2 hmn hm
    by_cases k3 : i = 9
    · have t1 : ((7 * (i : Int)) == 63) = true := by rw [beq_iff_eq]; omega
      have t3 : ¬ (1 : Int) < (y : Int) := by omega
      have t4 : ((y : Int) == 0) = false := by rw [beq_eq_false_iff_ne]; omega
      have HK := hid (And.intro k1 (And.intro k2 k3))
      clear k1 k2 k3
      go_wp2_with fail
      refine (H1.out _ hr).mono ?_
      rintro e w1 ⟨rfl, hb1⟩
      go_wp2_with fail
      refine (H2.out _ (RowAt.run hr hb1)).mono ?_
      rintro e w2 ⟨rfl, hr2, hu2⟩
      have hu3 := hid (zbh (zbp HU.out hb1) hu2)
      clear hu2 hb1
      go_wp2
      rw [Exit.noGoto_ret]
      go_ret2
      exact zgq HS.out (by rw [HN.out]; rfl) hr2 hu3.out
    have t1 : ((7 * (i : Int)) == 63) = false := by rw [beq_eq_false_iff_ne]; omega
    by_cases k4 : y = 0
    · have t4 : ((y : Int) == 0) = true := by rw [beq_iff_eq]; omega
      have t5 : ¬ (0 : Int) < 7 * (i : Int) := by omega
      have HK := hid (And.intro k1 (And.intro k2 (And.intro k3 k4)))
      clear k1 k2 k3 k4
      go_wp2_with fail
      refine (H1.out _ hr).mono ?_
      rintro e w1 ⟨rfl, hb1⟩
      go_wp2_with fail
      refine (H2.out _ (RowAt.run hr hb1)).mono ?_
      rintro e w2 ⟨rfl, hr2, hu2⟩
      have hu3 := hid (zbh (zbp HU.out hb1) hu2)
      clear hu2 hb1
      go_wp2
      rw [Exit.noGoto_ret]
      go_ret2
      exact zgq HS.out (by rw [HN.out]; rfl) hr2 hu3.out
    have t4 : ((y : Int) == 0) = false := by rw [beq_eq_false_iff_ne]; omega
    have HK := hid (And.intro k1 (And.intro k2 (And.intro k3 k4)))
    clear k1 k2 k3 k4
    go_wp2_with fail
    refine (H1.out _ hr).mono ?_
    rintro e w1 ⟨rfl, hb1⟩
    go_wp2_with fail
    refine (H2.out _ (RowAt.run hr hb1)).mono ?_
    rintro e w2 ⟨rfl, hr2, hu2⟩
    have hu3 := hid (zbh (zbp HU.out hb1) hu2)
    clear hu2 hb1
    go_wp2
    rw [Exit.noGoto_ret]
    go_ret2
    exact zgq HS.out (by rw [HN.out]; rfl) hr2 hu3.out
  have he : a + i = s.size := by omega
  have hd : decide ((1 : Int) ≤ (s.size : Int) - ((a + i : Nat) : Int)) = false := by simp; omega
  have C1 := fun W (hw : ERd W b s (a + i)) => zdi b s (a + i) 1 W hw (by omega) hs (by omega)
  rw [hd] at C1
  have H1 := hid C1
  have HS := hid (show gz 0 0 (s.data.toList.drop a) = .error 20 from by rw [hz.out.2, List.drop_eq_nil_of_le (by simp; omega)]; rfl)
  have HU := hid hu
  clear C1 hd he h hu
  go_wp2_with fail
  refine (H1.out _ hr).mono ?_
  rintro e w1 ⟨rfl, hb1⟩
  have hr1 := hid (RowAt.run hr hb1)
  have hu3 := hid (zbp HU.out hb1)
  clear hb1
  go_wp2
  rw [Exit.noGoto_ret]
  go_ret2
  exact zek HS.out rfl hr1.out hu3.out
def intV (r : Except Int (Int × Nat)) : Value := match r with | .ok (n, nx) => .tuple #[.int .i64 n, .int .i64 (nx : Int), .int .i64 0] | .error c => .tuple #[.int .i64 0, .int .i64 0, .int .i64 c]
def textV (r : Except Int (ByteArray × Nat)) : Value := match r with | .ok (t, nx) => .tuple #[.string t, .int .i64 (nx : Int), .int .i64 0] | .error c => .tuple #[.string ⟨#[]⟩, .int .i64 0, .int .i64 c]
theorem zyg (s : ByteArray) (a : Nat) (w : World) (ha : a ≤ s.size) (hs : s.size ≤ 1000000) :
   Calls Tryz.prog 264 #[.string s, .int .i64 (a : Int)] w fun e w' => e = .returned (intV (getI s a)) ∧ Below w.heap.size w w' := by
 have C1 := hid (zfa w.heap.size s a (w.alloc (.cells #[.string s, .int .i64 (a : Int)] 317)) (RowAt.new _ _ _) ha)
 have C2 := hid (fun W (h : ERd W w.heap.size s a) => zju w.heap.size s a W h ha hs)
 clear ha hs
 cases hx : getI s a with
 | error c =>
   have HX := hid hx
   have hc : c = 20 ∨ c = 3 := zds hx
   have hc0 : (c != 0) = true := by rw [bne_iff_ne]; omega
   clear hx
   go_enter Tryz.func264, Tryz.ntmps264
   go_wp2_with fail
   refine C1.out.mono ?_
   rintro e w1 ⟨rfl, hb1⟩
   have hr : ERd w1 w.heap.size s a := RowAt.run (RowAt.new _ _ _) hb1
   have HB := hid hb1
   clear hb1
   go_wp2_with fail
   refine (C2.out _ hr).mono ?_
   rintro e w2 hp
   unfold IntPost at hp
   rw [HX.out] at hp
   obtain ⟨rfl, ⟨x, hr2⟩, hu⟩ := hp
   have HU := hid (zaw (a := w) (zag ((Below.refl _ _).alloc (Nat.le_refl _) _) (by simp) HB.out) hu (Nat.le_refl _))
   clear hu hr hr2
   go_wp2
   go_ret3
   exact ⟨rfl, HU.out⟩
 | ok y =>
   obtain ⟨n, nx⟩ := y
   have HX := hid hx
   clear hx
   go_enter Tryz.func264, Tryz.ntmps264
   go_wp2_with fail
   refine C1.out.mono ?_
   rintro e w1 ⟨rfl, hb1⟩
   have hr : ERd w1 w.heap.size s a := RowAt.run (RowAt.new _ _ _) hb1
   have HB := hid hb1
   clear hb1
   go_wp2_with fail
   refine (C2.out _ hr).mono ?_
   rintro e w2 hp
   unfold IntPost at hp
   rw [HX.out] at hp
   obtain ⟨rfl, hr2, hu⟩ := hp
   have HU := hid (zaw (a := w) (zag ((Below.refl _ _).alloc (Nat.le_refl _) _) (by simp) HB.out) hu (Nat.le_refl _))
   obtain ⟨x1, x2, x3, x4, x5, x6⟩ := zaa hr2
   clear hu hr hr2
   go_wp2
   go_quiet (fail)
   go_wp2
   go_ret3
   exact ⟨rfl, by have := HU.out; exact bel⟩
def TextPost (b : Nat) (s : ByteArray) (a : Nat) (w : World) (e : Ending) (w' : World) : Prop :=
 match getT s a with
 | .ok (t, nx) => e = .returned (.tuple #[.string t, .int .i64 0]) ∧ ERd w' b s nx ∧ Upd b w w'
 | .error c => e = .returned (.tuple #[.string ⟨#[]⟩, .int .i64 c]) ∧ (∃ x, ERd w' b s x) ∧ Upd b w w'
theorem zf7 {b : Nat} {s : ByteArray} {a x : Nat} {c : Int} {w w' : World} {e : Ending} (h : getT s a = .error c) (he : e = .returned (.tuple #[.string ⟨#[]⟩, .int .i64 c])) (hr : ERd w' b s x) (hu : Upd b w w') : TextPost b s a w e w' := by
 unfold TextPost
 rw [h]
 exact ⟨he, ⟨x, hr⟩, hu⟩
theorem zqi {b : Nat} {s t : ByteArray} {a nx : Nat} {w w' : World} {e : Ending} (h : getT s a = .ok (t, nx)) (he : e = .returned (.tuple #[.string t, .int .i64 0])) (hr : ERd w' b s nx) (hu : Upd b w w') : TextPost b s a w e w' := by
 unfold TextPost
 rw [h]
 exact ⟨he, hr, hu⟩
theorem zux (b : Nat) (s : ByteArray) (a : Nat) (w : World) (h : ERd w b s a) (ha : a ≤ s.size) (hs : s.size ≤ 1000000) :
   Calls Tryz.prog 295 #[.pointer (some ⟨b, 0, none⟩)] w fun e w' => TextPost b s a w e w' := by
 have C1 := hid (zju b s a w h ha hs)
 clear h
 cases hx : getI s a with
 | error c =>
   have hc : c = 20 ∨ c = 3 := zds hx
   have hc0 : (c != 0) = true := by rw [bne_iff_ne]; omega
   have HT := hid (show getT s a = .error c from by unfold getT; rw [hx])
   have HX := hid hx
   clear hx
   go_enter Tryz.func295, Tryz.ntmps295
   go_wp2_with fail
   refine C1.out.mono ?_
   rintro e w2 hp
   unfold IntPost at hp
   rw [HX.out] at hp
   obtain ⟨rfl, ⟨x, hr2⟩, hu⟩ := hp
   have HU := hid hu
   clear hu
   go_wp2
   go_ret2
   exact zf7 HT.out rfl hr2 HU.out
 | ok y =>
   obtain ⟨n, nx⟩ := y
   obtain ⟨m1, m2⟩ := zj8 hx ha
   have HX := hid hx
   have HT0 : getT s a = if n < 0 ∨ 65535 < n then .error 3 else if (s.size : Int) - nx < n then .error 20 else .ok (s.extract nx (nx + n.toNat), nx + n.toNat) := by unfold getT; rw [hx]
   clear hx
   by_cases k1 : n < 0 ∨ 65535 < n
   · rw [if_pos k1] at HT0
     have HT := hid HT0
     clear HT0
     go_enter Tryz.func295, Tryz.ntmps295
     go_wp2_with fail
     refine C1.out.mono ?_
     rintro e w2 hp
     unfold IntPost at hp
     rw [HX.out] at hp
     obtain ⟨rfl, hr2, hu⟩ := hp
     have HU := hid hu
     clear hu
     go_wp2
     all_goals go_ret2
     all_goals exact zf7 HT.out rfl hr2 HU.out
   obtain ⟨q, rfl⟩ : ∃ q : Nat, n = (q : Int) := ⟨n.toNat, by omega⟩
   have q1 : ¬ (q : Int) < 0 := by omega
   have q2 : ¬ 65535 < (q : Int) := by omega
   rw [if_neg k1] at HT0
   have C2 := fun W (hw : ERd W b s nx) => zdi b s nx (q : Int) W hw m2 hs (by omega)
   by_cases k2 : (s.size : Int) - nx < (q : Int)
   · rw [if_pos k2] at HT0
     have HT := hid HT0
     have hd : decide ((q : Int) ≤ (s.size : Int) - (nx : Int)) = false := by simp; omega
     rw [hd] at C2
     have H2 := hid C2
     clear HT0 hd C2 k1 k2
     go_enter Tryz.func295, Tryz.ntmps295
     go_wp2_with fail
     refine C1.out.mono ?_
     rintro e w2 hp
     unfold IntPost at hp
     rw [HX.out] at hp
     obtain ⟨rfl, hr2, hu⟩ := hp
     have HU := hid hu
     clear hu
     go_wp2_with fail
     refine (H2.out _ hr2).mono ?_
     rintro e w3 ⟨rfl, hb3⟩
     have HB := hid hb3
     clear hb3
     go_wp2
     go_ret2
     exact zf7 HT.out rfl (RowAt.run hr2 HB.out) (zbp HU.out HB.out)
   rw [if_neg k2] at HT0
   have HT := hid HT0
   have hd : decide ((q : Int) ≤ (s.size : Int) - (nx : Int)) = true := by simp; omega
   rw [hd] at C2
   have H2 := hid C2
   have H3 := hid (fun W (hw : ERd W b s nx) => zc4 b s nx q W hw (by omega) hs)
   clear HT0 hd C2 k1 k2
   go_enter Tryz.func295, Tryz.ntmps295
   go_wp2_with fail
   refine C1.out.mono ?_
   rintro e w2 hp
   unfold IntPost at hp
   rw [HX.out] at hp
   obtain ⟨rfl, hr2, hu⟩ := hp
   have HU := hid hu
   clear hu
   go_wp2_with fail
   refine (H2.out _ hr2).mono ?_
   rintro e w3 ⟨rfl, hb3⟩
   have HB := hid hb3
   have hr3 : ERd w3 b s nx := RowAt.run hr2 HB.out
   clear hb3 hr2
   go_wp2_with fail
   refine (H3.out _ hr3).mono ?_
   rintro e w4 ⟨rfl, hr4, hu4⟩
   have HU4 := hid hu4
   clear hu4
   go_wp2
   go_ret2
   exact zqi HT.out rfl hr4 (zbh (zbp HU.out HB.out) HU4.out)
theorem znx (s : ByteArray) (a : Nat) (w : World) (ha : a ≤ s.size) (hs : s.size ≤ 1000000) :
   Calls Tryz.prog 261 #[.string s, .int .i64 (a : Int)] w fun e w' => e = .returned (textV (getT s a)) ∧ Below w.heap.size w w' := by
 have C1 := hid (zfa w.heap.size s a (w.alloc (.cells #[.string s, .int .i64 (a : Int)] 317)) (RowAt.new _ _ _) ha)
 have C2 := hid (fun W (h : ERd W w.heap.size s a) => zux w.heap.size s a W h ha hs)
 clear ha hs
 cases hx : getT s a with
 | error c =>
   have HX := hid hx
   have hc : c = 20 ∨ c = 3 := zin hx
   have hc0 : (c != 0) = true := by rw [bne_iff_ne]; omega
   clear hx
   go_enter Tryz.func261, Tryz.ntmps261
   go_wp2_with fail
   refine C1.out.mono ?_
   rintro e w1 ⟨rfl, hb1⟩
   have hr : ERd w1 w.heap.size s a := RowAt.run (RowAt.new _ _ _) hb1
   have HB := hid hb1
   clear hb1
   go_wp2_with fail
   refine (C2.out _ hr).mono ?_
   rintro e w2 hp
   unfold TextPost at hp
   rw [HX.out] at hp
   obtain ⟨rfl, ⟨x, hr2⟩, hu⟩ := hp
   have HU := hid (zaw (a := w) (zag ((Below.refl _ _).alloc (Nat.le_refl _) _) (by simp) HB.out) hu (Nat.le_refl _))
   clear hu hr hr2
   go_wp2
   go_ret3
   exact ⟨rfl, HU.out⟩
 | ok y =>
   obtain ⟨n, nx⟩ := y
   have HX := hid hx
   clear hx
   go_enter Tryz.func261, Tryz.ntmps261
   go_wp2_with fail
   refine C1.out.mono ?_
   rintro e w1 ⟨rfl, hb1⟩
   have hr : ERd w1 w.heap.size s a := RowAt.run (RowAt.new _ _ _) hb1
   have HB := hid hb1
   clear hb1
   go_wp2_with fail
   refine (C2.out _ hr).mono ?_
   rintro e w2 hp
   unfold TextPost at hp
   rw [HX.out] at hp
   obtain ⟨rfl, hr2, hu⟩ := hp
   have HU := hid (zaw (a := w) (zag ((Below.refl _ _).alloc (Nat.le_refl _) _) (by simp) HB.out) hu (Nat.le_refl _))
   obtain ⟨x1, x2, x3, x4, x5, x6⟩ := zaa hr2
   clear hu hr hr2
   go_wp2
   go_quiet (fail)
   go_wp2
   go_ret3
   exact ⟨rfl, by have := HU.out; exact bel⟩
theorem zqo (s : ByteArray) (k : Nat) (h : k < s.size) (W : World) : (Instr.index 9 (.string s) (.int .i64 (k : Int))).run Tryz.prog W = .ok (.int .u8 (s[k].toNat : Int)) W := by
 have h1 : (k : Int) < (s.size : Int) := by omega
 simp [go_sem, h]
theorem ztb (s : ByteArray) (w : World) (hs : s.size ≤ 9223372036854775807) :
   Calls Tryz.prog 217 #[.string s] w fun e w' => (e = .returned (.tuple #[.string (str (textB s)), .int .i64 (textE s)])) ∧ Below w.heap.size w w' := by
 by_cases h : 65535 < s.size
 · have h2 : (65535 : Int) < (s.size : Int) := by omega
   rw [textE, if_pos h, textB, if_pos h]
   go_enter Tryz.func217, Tryz.ntmps217
   go_wp2
   go_ret2
   exact ⟨rfl, bel⟩
 have h2 : ¬ (65535 : Int) < (s.size : Int) := by omega
 rw [textE, if_neg h, textB, if_neg h]
 go_enter Tryz.func217, Tryz.ntmps217
 go_wp2_with fail
 refine (zb4 s.size _ (by omega) (by omega)).mono ?_
 rintro e w1 ⟨rfl, hb⟩
 have hl := za3 (n := s.size) (by omega) (by omega)
 have hx : str (intB s.size ++ s.data.toList) = str (intB s.size) ++ s := (zcz _ _).symm
 have HX := hid hx
 have hxl : ((str (intB s.size)).size : Int) ≤ 10 := by rw [zar]; omega
 generalize str (intB s.size) = x at hxl HX ⊢
 have hsum : ¬ 9223372036854775807 < (x.size : Int) + (s.size : Int) := by omega
 clear hl hx
 go_wp2
 go_ret2
 exact ⟨(by rw [HX.out]; rfl), bel⟩
theorem zcd (s : ByteArray) (w : World) (hs : s.size ≤ 9223372036854775807) :
  Calls Tryz.prog 113 #[.string s] w fun e w' => e = .returned (.string (str (textB s))) ∧ Below w.heap.size w w' := by
 go_enter Tryz.func113, Tryz.ntmps113
 go_wp2_with fail
 refine (ztb s _ hs).mono ?_
 rintro e w1 ⟨rfl, hb⟩
 go_wp2
 go_ret
 exact ⟨rfl, hb⟩
theorem zdr (q : Bool) (w : World) : Calls Tryz.prog 171 #[.bool q] w fun e w' => e = .returned (.int .i64 (truthI q)) ∧ w = w' := by
 cases q with
 | true =>
   go_enter Tryz.func171, Tryz.ntmps171
   go_wp2
   go_ret
   exact ⟨rfl, rfl⟩
 | false =>
   go_enter Tryz.func171, Tryz.ntmps171
   go_wp2
   go_ret
   exact ⟨rfl, rfl⟩
theorem zck (g : Nat) (ns : List Int) (w : World) (hg : RowAt w g 3 (intA ns)) (hi : Ints64 ns) (h0 : 0 < ns.length) (hn : ns.length ≤ 100) :
  Calls Tryz.prog 117 #[.slice (some ⟨g, 0, none⟩) ns.length ns.length] w fun e w' => e = .returned (.string (str (intsB ns))) ∧ Below w.heap.size w w' := by
 have HI := hid hi
 have h3 : (ns.length : Int) ≤ 100 := by omega
 clear hi
 go_enter Tryz.func117, Tryz.ntmps117
 go_wp2
 go_loopw [3, 4] (fun s3 i wr => ∃ k : Nat, k ≤ ns.length ∧ i = .int .i64 k ∧ s3 = .string (str (intsB (ns.take k))) ∧ Hid ((intsB (ns.take k)).length ≤ 10 * k) ∧ Hid (RowAt wr g 3 (intA ns)) ∧ Below w.heap.size w wr) (fun _ i _ => ns.length - (intOf i).toNat)
 case atStart => exact ⟨0, Nat.zero_le _, rfl, rfl, by simp [Hid, intsB], hid hg, Below.refl _ _⟩
 case round =>
  obtain ⟨k, hk, rfl, rfl, hsz, hrr, hb0⟩ := hrel
  by_cases hlt : k < ns.length
  · have hlt3 : (k : Int) < (ns.length : Int) := by omega
    obtain ⟨x1, x2, x3, x4, x5, x6⟩ := zaa hrr.out
    have hck : wr.cell? ⟨g, k, none⟩ = some (.int .i64 ns[k]) := by rw [x1 k]; simp [intA, List.getElem?_eq_getElem hlt]
    have hbd := HI.out ns[k] (List.getElem_mem hlt)
    have hts : ns.take (k + 1) = ns.take k ++ [ns[k]] := by rw [List.take_succ_eq_append_getElem hlt]
    have HT := hid hts
    have hk0 : (0 : Int) ≤ (k : Int) := by omega
    generalize ns[k] = n at hck hbd HT
    obtain ⟨m1, m2⟩ := hbd
    have hl := za3 m1 m2
    have HL := hid hl
    have C1 := hid (fun W => zb4 n W m1 m2)
    have HX := hid (zas (intsB (ns.take k)) (intB n))
    have hxl : ((str (intsB (ns.take k))).size : Int) ≤ 1000 := by rw [zar]; have := hsz.out; omega
    have hyl : ((str (intB n)).size : Int) ≤ 10 := by rw [zar]; omega
    generalize str (intsB (ns.take k)) = x at hxl HX ⊢
    generalize str (intB n) = y at hyl C1 HX ⊢
    have hsum : ¬ 9223372036854775807 < (x.size : Int) + (y.size : Int) := by omega
    clear x1 hts hl m1 m2
    go_wp2_with fail
    refine (C1.out _).mono ?_
    rintro e w1 ⟨rfl, hb1⟩
    have hr1 := hid (hrr.out.run hb1)
    have hb2 := hid (hb0.trans (hb1.mono hb0.size))
    clear hb1
    go_wp2
    go_roundw
    case rel => exact ⟨k + 1, by omega, by go_num, by rw [HT.out, zdm, HX.out]; simp [intsB], hid (by rw [HT.out, zdm]; have := hsz.out; have := HL.out; simp [intsB]; simp [intsB] at *; omega), hr1, hb2.out⟩
    case measure => simp [intOf]; omega
  obtain rfl : k = ns.length := by omega
  have HK := hid (show ns.take ns.length = ns from List.take_length)
  go_wp2
  go_ret
  exact ⟨zbl (by rw [HK.out]), hb0⟩
theorem zo6 {p : Option Mv} {m : Mv} (h : ¬ parE m.ch m.at_ = 0) : mvE p m = 2 := by unfold mvE; rw [if_pos h]
theorem zn3 {p : Option Mv} {m : Mv} (h1 : parE m.ch m.at_ = 0) (h : ¬ valE m.pal m.lev = 0) : mvE p m = 2 := by unfold mvE; rw [if_neg (by simp [h1]), if_pos h]
theorem zv5 {p : Option Mv} {m : Mv} (h1 : parE m.ch m.at_ = 0) (h2 : valE m.pal m.lev = 0) (h : m.part < 1 ∨ 4 < m.part) : mvE p m = 2 := by unfold mvE; rw [if_neg (by simp [h1]), if_neg (by simp [h2]), if_pos h]
theorem zqw {m : Mv} (h1 : parE m.ch m.at_ = 0) (h2 : valE m.pal m.lev = 0) (h : ¬ (m.part < 1 ∨ 4 < m.part)) : mvE none m = 0 := by unfold mvE; rw [if_neg (by simp [h1]), if_neg (by simp [h2]), if_neg h]
theorem zwc {q m : Mv} (h1 : parE m.ch m.at_ = 0) (h2 : valE m.pal m.lev = 0) (h : ¬ (m.part < 1 ∨ 4 < m.part)) : mvE (some q) m = if befP q.ch q.at_ m.ch m.at_ then 0 else 9 := by unfold mvE; rw [if_neg (by simp [h1]), if_neg (by simp [h2]), if_neg h]
theorem zto (v : Value) (l : List Mv) (w : World) (hv : ListAt 5 mvA w v l) :
   Calls Tryz.prog 168 #[v] w fun e w' => e = .returned (.int .i64 (movesE l)) ∧ Below w.heap.size w w' := by
 rcases hv with ⟨h0, a, cap, rfl⟩ | ⟨h0, h1, b, off, cap, rfl, hlt, hc⟩
 · have hl : l = [] := List.eq_nil_of_length_eq_zero h0
   subst hl
   go_enter Tryz.func168, Tryz.ntmps168
   go_wp2
   refine wp_loop_rounds 1 ?_
   rw [rounds_succ]
   go_wp2
   go_ret
   exact ⟨rfl, bel⟩
 by_cases h2 : l.length ≤ 128
 · have h3 : (l.length : Int) ≤ 128 := by omega
   have h4 : (0 : Int) < (l.length : Int) := by omega
   have hME : movesE l = firstE (mvAtE l) 0 (l.length - 0) := by rw [movesE, if_neg (by omega)]; rfl
   have HM := hid hME
   clear hME
   go_enter Tryz.func168, Tryz.ntmps168
   go_wp2
   go_loopw [3] (fun i wr => ∃ k : Nat, k ≤ l.length ∧ i = .int .i64 k ∧ Hid (movesE l = firstE (mvAtE l) k (l.length - k) ∧ ∀ j, j < k → mvAtE l j = 0) ∧ Below w.heap.size w wr) (fun i _ => l.length - (intOf i).toNat)
   case atStart => exact ⟨0, Nat.zero_le _, rfl, hid ⟨HM.out, fun j h => by omega⟩, Below.refl _ _⟩
   case round =>
    obtain ⟨k, hk, rfl, hf, hb0⟩ := hrel
    by_cases hlt2 : k < l.length
    · have hlt3 : (k : Int) < (l.length : Int) := by omega
      have hk0 : (0 : Int) ≤ (k : Int) := by omega
      have hc' : ∀ j, j < l.length * 5 → wr.cell? ⟨b, off + j, none⟩ = genC 5 mvA l j := fun j hj => (hb0.cell (p := ⟨b, off + j, none⟩) hlt).trans (hc j hj)
      have hbs := hb0.size
      have hbr : b < wr.heap.size := by omega
      obtain ⟨d, hd⟩ : ∃ d, l[k]? = some d := ⟨_, List.getElem?_eq_getElem hlt2⟩
      have HE := hid (fun (W : World) (hb : Below wr.heap.size wr W) => zch (fun j hj => (hb.cell (p := ⟨b, off + j, none⟩) hbr).trans (hc' j hj)) k d hd)
      obtain ⟨e0, e1, e2, e3, e4⟩ := HE.out wr (Below.refl _ _)
      obtain ⟨r, hr⟩ : ∃ r, mvAtE l k = r := ⟨_, rfl⟩
      have hrr : mvE (prevOf l k) d = r := by rw [← hr, mvAtE, hd]
      have HR := hid (And.intro hr hrr)
      have fin : Hid (∀ W, Below wr.heap.size wr W → r = 0 → (∃ k', k' ≤ l.length ∧ Value.int .i64 ((k : Int) + 1) = .int .i64 (k' : Int) ∧ Hid (movesE l = firstE (mvAtE l) k' (l.length - k') ∧ ∀ j, j < k' → mvAtE l j = 0) ∧ Below w.heap.size w W)) := hid (fun W hb e => ⟨k + 1, by omega, by go_num, hid ⟨hf.out.1.trans (zcc hlt2 (by rw [HR.out.1]; exact e)), fun j hj => by
          by_cases e9 : j = k
          · subst e9; rw [HR.out.1]; exact e
          exact hf.out.2 j (by omega)⟩, hb0.trans (hb.mono hbs)⟩)
      have stop : Hid (∀ W x, Below wr.heap.size wr W → r ≠ 0 → r = x → (Ending.returned (.int .i64 x) = .returned (.int .i64 (movesE l)) ∧ Below w.heap.size w W)) := hid (fun W x hb e hx => ⟨zab (by rw [hf.out.1, zb8 hlt2 (by rw [HR.out.1]; exact e), HR.out.1, hx]), hb0.trans (hb.mono hbs)⟩)
      have C1 := fun W => zjf d.ch d.at_ W
      have C2 := fun W => zwp d.pal d.lev W
      by_cases p1 : parE d.ch d.at_ = 0
      · rw [p1] at C1
        by_cases p2 : valE d.pal d.lev = 0
        · rw [p2] at C2
          have H1 := hid C1
          have H2 := hid C2
          by_cases p3 : d.part < 1 ∨ 4 < d.part
          · have hrv : r = 2 := by rw [← hrr]; exact zv5 p1 p2 p3
            clear hrr hr hc' hc hd C1 C2 HM
            go_wp2_with fail
            refine (H1.out _).mono ?_
            rintro e w1 ⟨rfl, hb1⟩
            obtain ⟨f0, f1, f2, f3, f4⟩ := HE.out w1 hb1
            clear e0 e1 e2 e3 e4
            go_wp2_with fail
            refine (H2.out _).mono ?_
            rintro e w2 ⟨rfl, hb2⟩
            obtain ⟨e0, e1, e2, e3, e4⟩ := HE.out w2 bel
            clear f0 f1 f2 f3 f4
            go_wp2
            all_goals go_ret
            all_goals exact stop.out _ _ bel (by omega) (by omega)
          have p4 : ¬ d.part < 1 := by omega
          have p5 : ¬ 4 < d.part := by omega
          by_cases hkz : k = 0
          · have hrv : r = 0 := by rw [← hrr, hkz]; exact zqw p1 p2 p3
            have hkz2 : ¬ (0 : Int) < (k : Int) := by omega
            have hkz3 : decide (0 < k) = false := by simp; omega
            have hkz4 : decide ((0 : Int) < (k : Int)) = false := by simp; omega
            have hkz5 : ¬ 0 < k := by omega
            clear hrr hr hc' hc hd C1 C2 HM p3 hkz
            go_wp2_with fail
            refine (H1.out _).mono ?_
            rintro e w1 ⟨rfl, hb1⟩
            obtain ⟨f0, f1, f2, f3, f4⟩ := HE.out w1 hb1
            clear e0 e1 e2 e3 e4
            go_wp2_with fail
            refine (H2.out _).mono ?_
            rintro e w2 ⟨rfl, hb2⟩
            obtain ⟨e0, e1, e2, e3, e4⟩ := HE.out w2 bel
            clear f0 f1 f2 f3 f4
            go_wp2
            go_quiet (fail)
            go_wp2
            go_roundw
            case rel => exact fin.out _ bel hrv
            case measure => simp [intOf]; omega
          obtain ⟨j, hj⟩ : ∃ j, k = j + 1 := ⟨k - 1, by omega⟩
          obtain ⟨q, hq⟩ : ∃ q, l[j]? = some q := ⟨_, List.getElem?_eq_getElem (by omega)⟩
          have HP := hid (fun (W : World) (hb : Below wr.heap.size wr W) => zch (fun j hj => (hb.cell (p := ⟨b, off + j, none⟩) hbr).trans (hc' j hj)) j q hq)
          have hbv : (if befP q.ch q.at_ d.ch d.at_ then (0 : Int) else 9) = r := by rw [← zwc p1 p2 p3, ← hrr, hj, zi1, hq]
          have HV := hid hbv
          have hkz2 : (0 : Int) < (k : Int) := by omega
          have hkz5 : 0 < k := by omega
          have hk1 : (k : Int) - 1 = (j : Int) := by omega
          have hk2 : IntKind.i64.wrap ((k : Int) - 1) = (j : Int) := by rw [hk1]; exact IntWalk.i64_in _ (by omega)
          have hk3 : IntKind.i64.wrap (j : Int) = (j : Int) := IntWalk.i64_in _ (by omega)
          have hk4 : (0 : Int) ≤ (j : Int) ∧ (j : Int) < (l.length : Int) := by omega
          have hk5 : (0 : Int) ≤ (j : Int) := by omega
          have hk6 : (j : Int) < (l.length : Int) := by omega
          have H3 := hid (fun W => zfl q.ch q.at_ d.ch d.at_ W)
          obtain ⟨bv, hbv9⟩ : ∃ x, befP q.ch q.at_ d.ch d.at_ = x := ⟨_, rfl⟩
          rw [hbv9] at H3 HV
          clear hrr hr hc' hc hd C1 C2 HM p3 hkz hj hq hbv hbv9
          go_wp2_with fail
          refine (H1.out _).mono ?_
          rintro e w1 ⟨rfl, hb1⟩
          obtain ⟨f0, f1, f2, f3, f4⟩ := HE.out w1 hb1
          clear e0 e1 e2 e3 e4
          go_wp2_with fail
          refine (H2.out _).mono ?_
          rintro e w2 ⟨rfl, hb2⟩
          have hq2 : Below wr.heap.size wr w2 := bel
          obtain ⟨e0, e1, e2, e3, e4⟩ := HE.out w2 hq2
          obtain ⟨g0, g1, -⟩ := HP.out w2 hq2
          have HK := hid (fun (W : World) (hb5 : Below w2.heap.size w2 W) => (And.intro (HE.out W (zag hq2 hq2.size hb5)).1 (And.intro (HE.out W (zag hq2 hq2.size hb5)).2.1 (And.intro (HP.out W (zag hq2 hq2.size hb5)).1 (HP.out W (zag hq2 hq2.size hb5)).2.1))))
          have HQ2 := hid hq2
          clear f0 f1 f2 f3 f4 hb1 hb2 hq2
          go_wp2
          go_region_held3 (fun w' => w'.cell? ⟨b, off + k * 5, none⟩ = some (.int .i64 d.ch) ∧ w'.cell? ⟨b, off + k * 5 + 1, none⟩ = some (.int .i64 d.at_) ∧ w'.cell? ⟨b, off + j * 5, none⟩ = some (.int .i64 q.ch) ∧ w'.cell? ⟨b, off + j * 5 + 1, none⟩ = some (.int .i64 q.at_)) (first | exact HK.out _ bel | go_keep) ((go_at_call 259; refine (H3.out _).mono ?_; rintro e w4 ⟨rfl, hb4⟩))
          all_goals
            have hq4 : Below wr.heap.size wr w4 := zag HQ2.out HQ2.out.size bel
            clear hb4
            cases bv with
            | true =>
              go_wp2
              go_roundw
              case rel => exact fin.out _ hq4 HV.out.symm
              case measure => simp [intOf]; omega
            | false =>
              go_wp2
              go_ret
              exact stop.out _ _ hq4 (by rw [← HV.out]; decide) HV.out.symm
        have pv : valE d.pal d.lev = 2 := by grind [valE]
        have hrv : r = 2 := by rw [← hrr]; exact zn3 p1 p2
        rw [pv] at C2
        have H1 := hid C1
        have H2 := hid C2
        clear hrr hr hc' hc hd C1 C2 HM p2 pv
        go_wp2_with fail
        refine (H1.out _).mono ?_
        rintro e w1 ⟨rfl, hb1⟩
        obtain ⟨f0, f1, f2, f3, f4⟩ := HE.out w1 hb1
        clear e0 e1 e2 e3 e4
        go_wp2_with fail
        refine (H2.out _).mono ?_
        rintro e w2 ⟨rfl, hb2⟩
        go_wp2
        all_goals go_ret
        all_goals exact stop.out _ _ bel (by omega) (by omega)
      have pv : parE d.ch d.at_ = 2 := by grind [parE]
      have hrv : r = 2 := by rw [← hrr]; exact zo6 p1
      rw [pv] at C1
      have H1 := hid C1
      clear hrr hr hc' hc hd C1 C2 HM p1 pv
      go_wp2_with fail
      refine (H1.out _).mono ?_
      rintro e w1 ⟨rfl, hb1⟩
      go_wp2
      all_goals go_ret
      all_goals exact stop.out _ _ bel (by omega) (by omega)
    obtain rfl : k = l.length := by omega
    go_wp2
    go_ret
    exact ⟨zab (by rw [hf.out.1, zfw]), hb0⟩
 have h3 : 128 < (l.length : Int) := by omega
 go_enter Tryz.func168, Tryz.ntmps168
 go_wp2
 go_ret
 exact ⟨zab (by rw [movesE, if_pos (by omega)]), bel⟩
theorem zf8 (s : ByteArray) (w : World) : ∃ W1 cap, (convert 9 59 (.string s)).run Tryz.prog w = .ok (.slice (some ⟨w.heap.size, 0, none⟩) s.size cap) W1 ∧
   (∀ i, i < s.size → W1.cell? ⟨w.heap.size, i, none⟩ = some (.int .u8 ((s.data.toList.getD i 0).toNat : Int)) ∧ W1.frozen? ⟨w.heap.size, i, none⟩ = false) ∧ Below w.heap.size w W1 ∧ w.heap.size < W1.heap.size := by
 refine ⟨_, _, run_bytes_of_string w 9 59 5 s Tryz.underlying9 Tryz.underlying59 Tryz.underlying5, fun i hi => ?_, ((Below.refl w.heap.size w).drew).alloc (Nat.le_refl _) _, by simp⟩
 have hg : (w.drew.alloc (.cells (bytesRow s (grownCap w s.size 0 5)) 5 ((bytesRow s (grownCap w s.size 0 5)).size, (bytesRow s (grownCap w s.size 0 5)).size + 1))).heap[w.heap.size]? = some (.cells (bytesRow s (grownCap w s.size 0 5)) 5 ((bytesRow s (grownCap w s.size 0 5)).size, (bytesRow s (grownCap w s.size 0 5)).size + 1)) := heap_alloc_new w.drew _
 have hsz : s.size ≤ (bytesRow s (grownCap w s.size 0 5)).size := by
   unfold bytesRow
   simp
 have hd : i < s.data.size := hi
 refine ⟨?_, ?_⟩
 · rw [cell_of_row _ w.heap.size i _ _ _ hg]
   unfold bytesRow
   rw [Array.getElem?_append_left (by simpa using hd)]
   simp [List.getD_eq_getElem?_getD, Array.getElem?_eq_getElem hd]
 unfold World.frozen?
 rw [hg]
 simp
 omega
theorem zel (s : ByteArray) (k : Nat) (h : k < s.size) : s.data.toList.getD k 0 = s[k] := by
 rw [List.getD_eq_getElem?_getD, List.getElem?_eq_getElem (by simpa using h)]
 rfl
theorem zed {s : ByteArray} {k : Nat} (h : k < s.size) (hf : (s.data.toList.take k).all okCh = true) (hb : okCh s[k] = true) : (s.data.toList.take (k + 1)).all okCh = true := by
 rw [zc2 s k h, List.all_append, hf]
 simpa using hb
theorem zca {s : ByteArray} {k : Nat} (h : k < s.size) (hb : okCh s[k] = false) : s.data.toList.all okCh = false := by
 rw [List.all_eq_false]
 exact ⟨s[k], List.getElem_mem (l := s.data.toList) (by simpa using h), by simp [hb]⟩
theorem zer {s : ByteArray} (hf : (s.data.toList.take s.size).all okCh = true) : s.data.toList.all okCh = true := by
 rwa [List.take_of_length_le (by simp)] at hf
theorem ztr (s : ByteArray) (w : World) (hs : s.size ≤ 9223372036854775807) :
   Calls Tryz.prog 155 #[.string s] w fun e w' => e = .returned (.int .i64 (labE s)) ∧ Below w.heap.size w w' := by
 by_cases h : 24 < s.size
 · have h2 : (24 : Int) < (s.size : Int) := by omega
   rw [labE, if_pos h]
   go_enter Tryz.func155, Tryz.ntmps155
   go_wp2
   go_ret
   exact ⟨rfl, bel⟩
 have h2 : ¬ (24 : Int) < (s.size : Int) := by omega
 have h3 : (s.size : Int) ≤ 24 := by omega
 obtain ⟨W1, cap, hc1, hcel, hb, hlt⟩ := zf8 s w
 have HL := hid (show labE s = if s.data.toList.all okCh then 0 else 3 from by rw [labE, if_neg h])
 have HC := hid hcel
 have HB := hid hb
 clear hcel hb
 go_enter Tryz.func155, Tryz.ntmps155
 go_wp2
 go_loopw [4, 11] (fun _ i wr => ∃ k : Nat, k ≤ s.size ∧ i = .int .i64 k ∧ Hid ((s.data.toList.take k).all okCh = true) ∧ wr = W1) (fun _ i _ => s.size - (intOf i).toNat)
 case atStart => exact ⟨0, Nat.zero_le _, rfl, by simp [Hid], rfl⟩
 case round =>
   obtain ⟨k, hk, rfl, hf, rfl⟩ := hrel
   by_cases hlt2 : k < s.size
   · have hlt3 : (k : Int) < (s.size : Int) := by omega
     obtain ⟨c0, -⟩ := HC.out k hlt2
     rw [zel s k hlt2] at c0
     obtain ⟨x, hx⟩ : ∃ x, s[k] = x := ⟨_, rfl⟩
     rw [hx] at c0
     have HX := hid hx
     clear hx hc1
     obtain ⟨y, hy⟩ : ∃ y : Int, (x.toNat : Int) = y := ⟨_, rfl⟩
     rw [hy] at c0
     have HY := hid hy
     clear hy
     by_cases hq : okCh x = true
     · have q1 : ¬ y < 32 := by have := HY.out; simp [okCh] at hq; omega
       have q2 : ¬ 126 < y := by have := HY.out; simp [okCh] at hq; omega
       have q3 : (y == 34) = false := by have := HY.out; simp [okCh] at hq; simp; omega
       have HQ := hid hq
       clear hq
       go_wp2
       go_roundw
       case rel => exact ⟨k + 1, by omega, by go_num, zed hlt2 hf.out (by rw [HX.out]; exact HQ.out), (by first | rfl | trivial)⟩
       case measure => simp [intOf]; omega
     have hq2 : okCh x = false := by simpa using hq
     have q1 : y < 32 ∨ 126 < y ∨ y = 34 := by have := HY.out; simp [okCh] at hq2; omega
     have HQ := hid hq2
     clear hq hq2
     by_cases r1 : y < 32
     · go_wp2
       go_ret
       exact ⟨zab (by rw [HL.out, zca hlt2 (by rw [HX.out]; exact HQ.out)]; rfl), HB.out⟩
     by_cases r2 : 126 < y
     · go_wp2
       go_ret
       exact ⟨zab (by rw [HL.out, zca hlt2 (by rw [HX.out]; exact HQ.out)]; rfl), HB.out⟩
     obtain rfl : y = 34 := by omega
     go_wp2
     go_ret
     exact ⟨zab (by rw [HL.out, zca hlt2 (by rw [HX.out]; exact HQ.out)]; rfl), HB.out⟩
   obtain rfl : k = s.size := by omega
   go_wp2
   go_ret
   exact ⟨zab (by rw [HL.out, zer hf.out]; rfl), HB.out⟩
theorem zqn (s : ByteArray) (w : World) (hs : s.size ≤ 9223372036854775807) :
   Calls Tryz.prog 167 #[.string s] w fun e w' => e = .returned (.int .i64 (labE s)) ∧ w = w' := by
 by_cases h : 24 < s.size
 · have h2 : (24 : Int) < (s.size : Int) := by omega
   rw [labE, if_pos h]
   go_enter Tryz.func167, Tryz.ntmps167
   go_wp2
   go_ret
   exact ⟨rfl, rfl⟩
 have h2 : ¬ (24 : Int) < (s.size : Int) := by omega
 have h3 : (s.size : Int) ≤ 24 := by omega
 have HL := hid (show labE s = if s.data.toList.all okCh then 0 else 3 from by rw [labE, if_neg h])
 go_enter Tryz.func167, Tryz.ntmps167
 go_wp2
 go_loop [3] (fun i => ∃ k : Nat, k ≤ s.size ∧ i = .int .i64 k ∧ Hid ((s.data.toList.take k).all okCh = true)) (fun i => s.size - (intOf i).toNat)
 case atStart => exact ⟨0, Nat.zero_le _, rfl, by simp [Hid]⟩
 case round =>
   obtain ⟨k, hk, rfl, hf⟩ := hrel
   by_cases hlt2 : k < s.size
   · have hlt3 : (k : Int) < (s.size : Int) := by omega
     go_wp2
     all_goals first
      | (go_ret
         have hbad := zca hlt2 (by grind [okCh])
         exact ⟨zab (by rw [HL.out, hbad]; rfl), rfl⟩)
      | (go_round
         case rel => exact ⟨k + 1, by omega, by go_num, zed hlt2 hf.out (by grind [okCh])⟩
         case measure => simp [intOf]; omega)
   obtain rfl : k = s.size := by omega
   go_wp2
   go_ret
   exact ⟨zab (by rw [HL.out, zer hf.out]; rfl), rfl⟩
end Go.Proofs.YtjeigphhepngmaaGreatDoor
