/-
  Integers and texts as bytes: record.Int, Text of both sides.
-/
import Derived.Test.YtjeigphhepngmaaGreatDoorYb
import Derived.Test.YtjeigphhepngmaaGreatDoorBas
import Derived.Test.YtjeigphhepngmaaGreatDoorOwn
import Derived.Laws.Bits64
import Derived.Laws.Bits64b
import Derived.Laws.BitsAllLaws
namespace Go.Proofs.YtjeigphhepngmaaGreatDoor
open Go.RowKit

theorem xor_top (x : Nat) (h : x < 18446744073709551616) : x ^^^ 18446744073709551615 = 18446744073709551615 - x := by
  have h1 := congrArg BitVec.toNat (BitVec.xor_allOnes (x := BitVec.ofNat 64 x))
  rw [BitVec.toNat_xor, BitVec.toNat_not, BitVec.toNat_allOnes] at h1
  simp only [BitVec.toNat_ofNat] at h1
  rw [Nat.mod_eq_of_lt (by omega)] at h1
  simpa using h1
theorem xor_top2 (x : Nat) (h : x < 18446744073709551616) : 18446744073709551615 ^^^ x = 18446744073709551615 - x := by rw [Nat.xor_comm]; exact xor_top x h
theorem zig_lt {n : Int} (h1 : -9223372036854775808 ≤ n) (h2 : n ≤ 9223372036854775807) : zig n < 18446744073709551616 := by
  unfold zig
  split <;> omega
theorem dbl_pos {n : Int} (h0 : 0 ≤ n) (h2 : n ≤ 9223372036854775807) : IntKind.u64.wrap (IntKind.u64.wrap n * 2) = ((zig n : Nat) : Int) := by
  unfold zig
  rw [if_pos h0]
  simp only [IntKind.wrap_u64]
  omega
theorem dbl_neg {n : Int} (h0 : n < 0) (h1 : -9223372036854775808 ≤ n) : IntKind.u64.wrap (IntKind.u64.wrap n * 2) = ((18446744073709551615 - zig n : Nat) : Int) := by
  unfold zig
  rw [if_neg (by omega)]
  simp only [IntKind.wrap_u64]
  omega
theorem zig_prog (n : Int) (h1 : -9223372036854775808 ≤ n) (h2 : n ≤ 9223372036854775807) :
    bits BinOp.xor IntKind.u64 (IntKind.u64.wrap (IntKind.u64.wrap n * 2)) (IntKind.u64.wrap (n / 9223372036854775808)) = ((zig n : Nat) : Int) := by
  have hz := zig_lt h1 h2
  by_cases h0 : 0 ≤ n
  · rw [dbl_pos h0 h2, show n / 9223372036854775808 = ((0 : Nat) : Int) from by omega, show IntKind.u64.wrap ((0 : Nat) : Int) = ((0 : Nat) : Int) from rfl, bits_xor_u64_nat _ _ hz (by decide)]
    simp
  · rw [dbl_neg (by omega) h1, show n / 9223372036854775808 = -1 from by omega, show IntKind.u64.wrap (-1) = ((18446744073709551615 : Nat) : Int) from rfl, bits_xor_u64_nat _ _ (by omega) (by decide), xor_top _ (by omega)]
    congr 1
    omega
theorem zig_ref (n : Int) (h0 : n < 0) (h1 : -9223372036854775808 ≤ n) :
    bits BinOp.xor IntKind.u64 IntKind.u64.max (IntKind.u64.wrap (IntKind.u64.wrap n * 2)) = ((zig n : Nat) : Int) := by
  have hz := zig_lt h1 (by omega)
  rw [dbl_neg h0 h1, show IntKind.u64.max = ((18446744073709551615 : Nat) : Int) from rfl, bits_xor_u64_nat _ _ (by decide) (by omega), xor_top2 _ (by omega)]
  congr 1
  omega

theorem vint_small {z : Nat} (h : z < 128) : vint z = [UInt8.ofNat z] := by rw [vint, if_pos h]
theorem vint_big {z : Nat} (h : ¬ z < 128) : vint z = UInt8.ofNat (z % 128 + 128) :: vint (z / 128) := by rw [vint, if_neg h]
theorem vint_len10 {z : Nat} (hz : z < 18446744073709551616) : (vint z).length ≤ 10 := by
  have : ∀ (k z : Nat), z < 128 ^ k → 0 < k → (vint z).length ≤ k := by
    intro k
    induction k with
    | zero => intro z _ h; omega
    | succ k ih =>
      intro z hz _
      by_cases h : z < 128
      · rw [vint_small h]; simp
      · rw [vint_big h, List.length_cons]
        have hk : 0 < k := by
          rcases Nat.eq_zero_or_pos k with rfl | h'
          · simp at hz; omega
          · exact h'
        have := ih (z / 128) (by rw [Nat.pow_succ] at hz; omega) hk
        omega
  refine this 10 z ?_ (by decide)
  have e : (128 : Nat) ^ 10 = 1180591620717411303424 := by decide
  omega
theorem intB_len {n : Int} (h1 : -9223372036854775808 ≤ n) (h2 : n ≤ 9223372036854775807) : (intB n).length ≤ 10 := vint_len10 (zig_lt h1 h2)
theorem vint_pos (z : Nat) : 1 ≤ (vint z).length := by
  by_cases h : z < 128
  · rw [vint_small h]; simp
  · rw [vint_big h]; simp
theorem or_128 (z : Nat) : bits BinOp.or .u8 ((z : Int) % 256) 128 = ((UInt8.ofNat (z % 128 + 128)).toNat : Int) := by
  have h : ∀ x : BitVec 8, (x ||| 128#8).toNat = x.toNat % 128 + 128 := by decide
  rw [u8_or _ _ (by omega) (by omega) (by decide) (by decide)]
  have h2 := h (BitVec.ofNat 8 (z % 256))
  rw [BitVec.toNat_or] at h2
  simp only [BitVec.toNat_ofNat] at h2
  have e : ((z : Int) % 256).toNat = z % 256 := by omega
  rw [e]
  simp at h2 ⊢
  omega
theorem low_byte {z : Nat} (_h : z < 128) : IntKind.u8.wrap (z : Int) = ((UInt8.ofNat z).toNat : Int) := by
  rw [IntKind.wrap_u8']
  simp

theorem OwnB.alloc {w : World} {B : Nat} {v : Value} {l : List UInt8} (h : OwnB w B v l) (o : Obj) : (w.alloc o).ownsRow B 5 1 v l.length (u8L l) := World.ownsRow.alloc h o
theorem u8L_snoc (l : List UInt8) (b : UInt8) : u8L (l ++ [b]) = u8L l ++ [.int .u8 (b.toNat : Int)] := by simp [u8L]
theorem OwnB.snoc {w : World} {B : Nat} {v : Value} {l : List UInt8} {b : UInt8} (h : w.ownsRow B 5 1 v (l.length + 1) (u8L l ++ [.int .u8 (b.toNat : Int)])) : OwnB w B v (l ++ [b]) := by
  unfold OwnB
  rw [List.length_append, u8L_snoc]
  exact h
theorem byte_news {w : World} {b : Nat} {x : Value} (h : w.cell? ⟨b, 0, none⟩ = some x) : ∀ (j : Nat) u, [x][j]? = some u → w.cell? ((⟨b, 0, none⟩ : Addr).add j) = some u := by
  intro j u hj
  match j, hj with
  | 0, hj => simp at hj; subst hj; simpa [Addr.add] using h

set_option maxHeartbeats 1000000 in
set_option maxRecDepth 100000 in
theorem eint_any (n : Int) (w : World) (h1 : -9223372036854775808 ≤ n) (h2 : n ≤ 9223372036854775807) :
    Calls Tryz.prog 198 #[.int .i64 n] w fun e w' => e = .returned (.string (str (intB n))) ∧ Below w.heap.size w w' := by
  obtain ⟨i0, hi, hz0, hz1, hz2⟩ := info_parts Tryz.info_byte
  have hX := zig_prog n h1 h2
  have hzl := zig_lt h1 h2
  obtain ⟨z0, hz⟩ : ∃ z, zig n = z := ⟨_, rfl⟩
  rw [hz] at hX hzl
  have HZ := Lib.hid (show intB n = vint z0 from by rw [intB, hz])
  have hlen := vint_len10 hzl
  clear hz
  go_enter Tryz.func198, Tryz.ntmps198
  go_wp2
  go_loopw [3, 4] (fun s3 s4 wr => ∃ (z : Nat) (l : List UInt8), z < 18446744073709551616 ∧ s3 = .int .u64 (z : Int) ∧ OwnB wr w.heap.size s4 l ∧ Hid (vint z0 = l ++ vint z) ∧ l.length ≤ 10 ∧ Below w.heap.size w wr) (fun s3 _ _ => (intOf s3).toNat)
  case atStart => exact ⟨z0, [], hzl, rfl, ownB_nil _ _, Lib.hid rfl, by simp, Below.refl _ _⟩
  case round =>
    obtain ⟨z, l, hz, rfl, hown, hv, hl, hb0⟩ := hrel
    have hbs := hb0.size
    by_cases hlt : z < 128
    · have hlt2 : (z : Int) < 128 := by omega
      have hvz := vint_small hlt
      have hlb := low_byte hlt
      obtain ⟨b, hbb⟩ : ∃ b, UInt8.ofNat z = b := ⟨_, rfl⟩
      rw [hbb] at hvz hlb
      have HV := Lib.hid hvz
      clear hvz hX h1 h2 hbb
      go_wp2_with (at_builtin; refine wpList_append_own _ rfl (.tmp 22) (.tmp 25) 59 rfl w.heap.size 5 i0 _ 1 1 Tryz.underlying59 hi hz0 hz1 hz2 rfl (by decide) _ _ _ rfl (OwnB.alloc hown _) ⟨wr.heap.size, 0, none⟩ 1 1 [.int .u8 (b.toNat : Int)] rfl rfl ?c1 ?c2 ?c3 ?c4 ?c5 ?_)
      case c1 => exact byte_news (by simp)
      case c2 => first | rfl | (intro u hu; simp at hu; subst hu; rfl)
      case c3 => unfold maxLen; omega
      case c4 => omega
      case c5 => first | omega | (simp; omega)
      · intro v' w2 hown2 hgrow _
        have hb2 := below_grown (hb0.alloc (by omega) _) (OwnB.alloc hown _) (Nat.le_refl _) hgrow (by simp; omega)
        have hcv := conv_own (OwnB.snoc hown2)
        clear hgrow hown hown2
        go_wp2
        go_ret
        exact ⟨ret_str (by rw [HZ.out, hv.out, HV.out]), hb2⟩
    · have hlt2 : ¬ (z : Int) < 128 := by omega
      have hvz := vint_big hlt
      have hlb := or_128 z
      have HV := Lib.hid hvz
      have hl9 : l.length ≤ 9 := by
        have := congrArg List.length (hv.out.trans (by rw [hvz]))
        simp at this
        have h5 := vint_pos (z / 128)
        omega
      obtain ⟨b, hbb⟩ : ∃ b, UInt8.ofNat (z % 128 + 128) = b := ⟨_, rfl⟩
      rw [hbb] at hlb HV
      clear hvz hX h1 h2 hbb
      go_wp2_with (at_builtin; refine wpList_append_own _ rfl (.tmp 16) (.tmp 20) 59 rfl w.heap.size 5 i0 _ 1 1 Tryz.underlying59 hi hz0 hz1 hz2 rfl (by decide) _ _ _ rfl (OwnB.alloc hown _) ⟨wr.heap.size, 0, none⟩ 1 1 [.int .u8 (b.toNat : Int)] rfl rfl ?c1 ?c2 ?c3 ?c4 ?c5 ?_)
      case c2 => first | rfl | (intro u hu; simp at hu; subst hu; rfl)
      case c3 => unfold maxLen; omega
      case c4 => omega
      case c5 => first | omega | (simp; omega)
      · intro v' w2 hown2 hgrow _
        have hb2 := below_grown (hb0.alloc (by omega) _) (OwnB.alloc hown _) (Nat.le_refl _) hgrow (by simp; omega)
        have hown3 := OwnB.snoc hown2
        clear hgrow hown hown2 hlb
        go_wp2
        go_roundw
        case rel => exact ⟨z / 128, l ++ [b], by omega, by simp, hown3, by rw [Hid, hv.out, HV.out]; simp, by simp; omega, hb2⟩
        case measure => simp [intOf]; omega

theorem str_append (a b : List UInt8) : str a ++ str b = str (a ++ b) := by
  apply ByteArray.ext
  simp [str, ByteArray.data_append]
theorem str_add (a : List UInt8) (s : ByteArray) : str a ++ s = str (a ++ s.data.toList) := by
  apply ByteArray.ext
  simp [str, ByteArray.data_append]
theorem str_emp : str [] = (⟨#[]⟩ : ByteArray) := rfl
theorem str_length (l : List UInt8) : (str l).size = l.length := by
  show l.toArray.size = _
  simp

/-- The error of a text. -/
def textE (s : ByteArray) : Int := if 65535 < s.size then 13 else 0
set_option maxHeartbeats 1000000 in
set_option maxRecDepth 100000 in
theorem etext_any (s : ByteArray) (w : World) (hs : s.size ≤ 9223372036854775807) :
    Calls Tryz.prog 199 #[.string s] w fun e w' => (e = .returned (.tuple #[.string (str (textB s)), .int .i64 (textE s)])) ∧ Below w.heap.size w w' := by
  by_cases h : 65535 < s.size
  · have h2 : (65535 : Int) < (s.size : Int) := by omega
    rw [textE, if_pos h, textB, if_pos h]
    go_enter Tryz.func199, Tryz.ntmps199
    go_wp2
    go_ret2
    exact ⟨rfl, by (repeat' (first | (with_reducible exact Below.refl _ _) | (with_reducible assumption) | (with_reducible refine below_run ?_ (by assumption)) | (with_reducible refine below_of_upd ?_ (by assumption) ?_) | (with_reducible refine below_drewN ?_ _) | (with_reducible refine Below.drew ?_) | (with_reducible refine below_seven ?_ ?_) | (with_reducible refine below_six ?_ ?_) | (with_reducible refine below_one ?_ ?_) | (with_reducible refine Below.alloc ?_ ?_ _) | (with_reducible refine below_after ?_ ?_ (by assumption)) | (show _ ≤ _; first | omega | (simp; done) | (simp; omega))))⟩
  · have h2 : ¬ (65535 : Int) < (s.size : Int) := by omega
    rw [textE, if_neg h, textB, if_neg h]
    go_enter Tryz.func199, Tryz.ntmps199
    go_wp2_with fail
    refine (eint_any s.size _ (by omega) (by omega)).mono ?_
    rintro e w1 ⟨rfl, hb⟩
    have hl := intB_len (n := s.size) (by omega) (by omega)
    have hx : str (intB s.size ++ s.data.toList) = str (intB s.size) ++ s := (str_add _ _).symm
    have HX := Lib.hid hx
    have hxl : ((str (intB s.size)).size : Int) ≤ 10 := by rw [str_length]; omega
    generalize str (intB s.size) = x at hxl HX ⊢
    have hsum : ¬ 9223372036854775807 < (x.size : Int) + (s.size : Int) := by omega
    clear hl hx
    go_wp2
    go_ret2
    exact ⟨(by rw [HX.out]; rfl), by (repeat' (first | (with_reducible exact Below.refl _ _) | (with_reducible assumption) | (with_reducible refine below_run ?_ (by assumption)) | (with_reducible refine below_of_upd ?_ (by assumption) ?_) | (with_reducible refine below_drewN ?_ _) | (with_reducible refine Below.drew ?_) | (with_reducible refine below_seven ?_ ?_) | (with_reducible refine below_six ?_ ?_) | (with_reducible refine below_one ?_ ?_) | (with_reducible refine Below.alloc ?_ ?_ _) | (with_reducible refine below_after ?_ ?_ (by assumption)) | (show _ ≤ _; first | omega | (simp; done) | (simp; omega))))⟩

/-! ### The reference -/
theorem octet_any (n : Int) (w : World) :
    Calls Tryz.prog 216 #[.int .i64 n] w fun e w' => e = .returned (.string (str [UInt8.ofNat (n % 256).toNat])) ∧ Below w.heap.size w w' := by
  have e : IntKind.u8.wrap n = ((UInt8.ofNat (n % 256).toNat).toNat : Int) := by
    rw [IntKind.wrap_u8']
    simp
    omega
  have hcv : ∀ W : World, (convert 59 9 (.slice (some ⟨W.heap.size, 0, none⟩) 1 1)).run Tryz.prog (W.alloc (.cells #[.int .u8 ((UInt8.ofNat (n % 256).toNat).toNat : Int)] 5)) = .ok (.string (str [UInt8.ofNat (n % 256).toNat])) (W.alloc (.cells #[.int .u8 ((UInt8.ofNat (n % 256).toNat).toNat : Int)] 5)) := fun W => by
    rw [← strOfNums_L]
    refine run_convert_bytes_arg _ 59 5 Tryz.underlying59 Tryz.underlying5 W.heap.size 0 1 1 _ (by simp) (fun i hi => ?_) 9 Tryz.underlying9
    have : i = 0 := by omega
    subst this
    simp
  generalize (UInt8.ofNat (n % 256).toNat) = b at e hcv
  go_enter Tryz.func216, Tryz.ntmps216
  go_wp2
  go_ret
  exact ⟨rfl, by (repeat' (first | (with_reducible exact Below.refl _ _) | (with_reducible assumption) | (with_reducible refine below_run ?_ (by assumption)) | (with_reducible refine below_of_upd ?_ (by assumption) ?_) | (with_reducible refine below_drewN ?_ _) | (with_reducible refine Below.drew ?_) | (with_reducible refine below_seven ?_ ?_) | (with_reducible refine below_six ?_ ?_) | (with_reducible refine below_one ?_ ?_) | (with_reducible refine Below.alloc ?_ ?_ _) | (with_reducible refine below_after ?_ ?_ (by assumption)) | (show _ ≤ _; first | omega | (simp; done) | (simp; omega))))⟩

set_option maxHeartbeats 1000000 in
set_option maxRecDepth 100000 in
theorem rint_any (n : Int) (w : World) (h1 : -9223372036854775808 ≤ n) (h2 : n ≤ 9223372036854775807) :
    Calls Tryz.prog 112 #[.int .i64 n] w fun e w' => e = .returned (.string (str (intB n))) ∧ Below w.heap.size w w' := by
  have hzl := zig_lt h1 h2
  have hX : (n < 0 → bits BinOp.xor IntKind.u64 IntKind.u64.max (IntKind.u64.wrap (IntKind.u64.wrap n * 2)) = ((zig n : Nat) : Int)) ∧ (0 ≤ n → IntKind.u64.wrap (IntKind.u64.wrap n * 2) = ((zig n : Nat) : Int)) := ⟨fun h => zig_ref n h h1, fun h => dbl_pos h h2⟩
  obtain ⟨z0, hz⟩ : ∃ z, zig n = z := ⟨_, rfl⟩
  rw [hz] at hX hzl
  have HZ := Lib.hid (show intB n = vint z0 from by rw [intB, hz])
  have HX := Lib.hid hX
  clear hz hX
  have key : (n < 0 ∧ bits BinOp.xor IntKind.u64 IntKind.u64.max (IntKind.u64.wrap (IntKind.u64.wrap n * 2)) = (z0 : Int)) ∨ (¬ n < 0 ∧ n * 2 = (z0 : Int)) := by
    by_cases h : n < 0
    · exact .inl ⟨h, HX.out.1 h⟩
    · refine .inr ⟨h, ?_⟩
      have := HX.out.2 (by omega)
      simp only [IntKind.wrap_u64] at this
      omega
  rcases key with ⟨hn, hx⟩ | ⟨hn, hx⟩
  all_goals
    clear HX
    go_enter Tryz.func112, Tryz.ntmps112
    go_wp2
    go_loopw [3, 4] (fun s3 s4 wr => ∃ (z : Nat) (l : List UInt8), z < 18446744073709551616 ∧ s3 = .int .u64 (z : Int) ∧ s4 = .string (str l) ∧ Hid (vint z0 = l ++ vint z) ∧ l.length ≤ 10 ∧ Below w.heap.size w wr) (fun s3 _ _ => (intOf s3).toNat)
    case atStart => exact ⟨z0, [], hzl, (by first | rfl | rw [hx]), rfl, Lib.hid rfl, by simp, Below.refl _ _⟩
    case round =>
      obtain ⟨z, l, hz, rfl, rfl, hv, hl, hb0⟩ := hrel
      have hxl : ((str l).size : Int) ≤ 10 := by rw [str_length]; omega
      have hfin := fun b : UInt8 => str_append l [b]
      have hone : ∀ b : UInt8, (str [b]).size = 1 := fun b => str_length _
      clear hx
      by_cases hlt : z < 128
      · have hlt2 : (z : Int) < 128 := by omega
        have HV := Lib.hid (vint_small hlt)
        have hob : UInt8.ofNat ((z : Int) % 256).toNat = UInt8.ofNat z := by congr 1; omega
        have OC := fun W => octet_any (z : Int) W
        rw [hob] at OC
        obtain ⟨b, hbb⟩ : ∃ b, UInt8.ofNat z = b := ⟨_, rfl⟩
        rw [hbb] at OC HV
        have FN := Lib.hid (hfin b)
        have h1b := hone b
        generalize str l = x at hxl FN ⊢
        generalize hy : str [b] = y at h1b FN OC ⊢
        have hsum : ¬ 9223372036854775807 < (x.size : Int) + (y.size : Int) := by omega
        have OC := Lib.hid OC
        clear hob hbb hfin hone hy h1b
        go_wp2_with fail
        refine (OC.out _).mono ?_
        rintro e w1 ⟨rfl, hb⟩
        go_wp2
        go_ret
        exact ⟨ret_str (by rw [HZ.out, hv.out, HV.out, FN.out]), by (repeat' (first | (with_reducible exact Below.refl _ _) | (with_reducible assumption) | (with_reducible refine below_run ?_ (by assumption)) | (with_reducible refine below_of_upd ?_ (by assumption) ?_) | (with_reducible refine below_drewN ?_ _) | (with_reducible refine Below.drew ?_) | (with_reducible refine below_seven ?_ ?_) | (with_reducible refine below_six ?_ ?_) | (with_reducible refine below_one ?_ ?_) | (with_reducible refine Below.alloc ?_ ?_ _) | (with_reducible refine below_after ?_ ?_ (by assumption)) | (show _ ≤ _; first | omega | (simp; done) | (simp; omega))))⟩
      · have hlt2 : ¬ (z : Int) < 128 := by omega
        have HV := Lib.hid (vint_big hlt)
        have hl9 : l.length ≤ 9 := by
          have h8 := congrArg List.length (hv.out.trans (by rw [HV.out]))
          have h5 := vint_pos (z / 128)
          have h6 := vint_len10 hzl
          simp at h8
          omega
        have hob : UInt8.ofNat (((z : Int) % 128 + 128) % 256).toNat = UInt8.ofNat (z % 128 + 128) := by congr 1; omega
        have OC := fun W => octet_any ((z : Int) % 128 + 128) W
        rw [hob] at OC
        obtain ⟨b, hbb⟩ : ∃ b, UInt8.ofNat (z % 128 + 128) = b := ⟨_, rfl⟩
        rw [hbb] at OC HV
        have FN := Lib.hid (hfin b)
        have h1b := hone b
        generalize str l = x at hxl FN ⊢
        generalize hy : str [b] = y at h1b FN OC ⊢
        have hsum : ¬ 9223372036854775807 < (x.size : Int) + (y.size : Int) := by omega
        have OC := Lib.hid OC
        clear hob hbb hfin hone hy h1b
        go_wp2_with fail
        refine (OC.out _).mono ?_
        rintro e w1 ⟨rfl, hb⟩
        go_wp2
        go_roundw
        case rel => exact ⟨z / 128, l ++ [b], by omega, by simp, by rw [FN.out], by rw [Hid, hv.out, HV.out]; simp, by simp; omega, by (repeat' (first | (with_reducible exact Below.refl _ _) | (with_reducible assumption) | (with_reducible refine below_run ?_ (by assumption)) | (with_reducible refine below_of_upd ?_ (by assumption) ?_) | (with_reducible refine below_drewN ?_ _) | (with_reducible refine Below.drew ?_) | (with_reducible refine below_seven ?_ ?_) | (with_reducible refine below_six ?_ ?_) | (with_reducible refine below_one ?_ ?_) | (with_reducible refine Below.alloc ?_ ?_ _) | (with_reducible refine below_after ?_ ?_ (by assumption)) | (show _ ≤ _; first | omega | (simp; done) | (simp; omega))))⟩
        case measure => simp [intOf]; omega
end Go.Proofs.YtjeigphhepngmaaGreatDoor
