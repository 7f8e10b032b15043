/-
  Plain definitions and lemmas on numbers, bytes, messages and devices: no program in sight.
  Contracts of the small functions on identities, lengths and addresses.
  Contracts of the small functions on addresses of devices.
  Contracts of the loops that turn bytes into numbers, and numbers into bytes.
  Contracts of the loops that turn numbers into bytes.
  Contracts of the devices' own bytes.
  Maps with integer keys that the call itself makes: what a store and a lookup do, said of the entries.
-/
import Derived.WalkKit
import Derived.Test.YtpkhcehddfmhpaaGreatBas
import Derived.Test.YtpkhcehddfmhpaaGreatRows
import Derived.WalkSpells
import Derived.WalkLawsBesides
import Derived.Lib.Hide
namespace Go.Proofs.YtpkhcehddfmhpaaGreat

/-- A number is an identity. -/
def isId (n : Int) : Bool := decide (0 < n ∧ n < 281474976710655)

/-- The last `c` bytes of a number, the highest one first. -/
def bytesOf (n : Nat) : Nat → List UInt8
  | 0 => []
  | c + 1 => bytesOf (n / 256) c ++ [UInt8.ofNat n]

/-- The number of some bytes, the highest one first. -/
def numOf (l : List UInt8) : Nat := l.foldl (fun a b => a * 256 + b.toNat) 0

theorem bytesOf_length (n c : Nat) : (bytesOf n c).length = c := by
  induction c generalizing n with
  | zero => rfl
  | succ c ih => simp [bytesOf, ih]

theorem snoc_ind {α : Type} {P : List α → Prop} (h0 : P []) (h1 : ∀ l a, P l → P (l ++ [a])) (l : List α) : P l := by
  have h : ∀ k : List α, P k.reverse := fun k => by
    induction k with
    | nil => exact h0
    | cons a k ih => rw [List.reverse_cons]; exact h1 _ _ ih
  have := h l.reverse
  rwa [List.reverse_reverse] at this

theorem numOf_nil : numOf [] = 0 := rfl
theorem numOf_snoc (l : List UInt8) (b : UInt8) : numOf (l ++ [b]) = numOf l * 256 + b.toNat := by
  simp [numOf]
theorem numOf_lt (l : List UInt8) : numOf l < 256 ^ l.length := by
  refine snoc_ind (P := fun l => numOf l < 256 ^ l.length) (by simp [numOf]) (fun l b ih => ?_) l
  rw [numOf_snoc, List.length_append, List.length_singleton, Nat.pow_succ]
  have := b.toNat_lt
  omega

theorem numOf_bytesOf (n c : Nat) : numOf (bytesOf n c) = n % 256 ^ c := by
  induction c generalizing n with
  | zero => simp [bytesOf, numOf, Nat.mod_one]
  | succ c ih =>
    rw [bytesOf, numOf_snoc, ih, Nat.pow_succ, Nat.mul_comm (256 ^ c) 256, Nat.mod_mul]
    simp
    omega

theorem bytesOf_numOf (l : List UInt8) : bytesOf (numOf l) l.length = l := by
  refine snoc_ind (P := fun l => bytesOf (numOf l) l.length = l) rfl (fun l b ih => ?_) l
  have := b.toNat_lt
  rw [numOf_snoc, List.length_append, List.length_singleton, bytesOf]
  rw [show (numOf l * 256 + b.toNat) / 256 = numOf l from by omega, ih]
  congr 2
  apply UInt8.toNat_inj.1
  simp

/-- A message; its data are a text. -/
structure Msg where
  dst : Int
  src : Int
  seq : Int
  kind : Int
  par : Int
  dat : ByteArray

/-- A device. -/
structure Dev where
  id : Int
  ft : Int
  ad : Int
  lb : ByteArray
  hr : Int
  mu : Bool
  idf : Bool

def lenOf (k : Int) : Int := if k = 1 then 12 else if k = 2 then 0 else if k = 3 then 0 else if k = 7 then 1 else -1

/-- The number of the error of a message. -/
def chk (m : Msg) : Int :=
  if (isId m.dst || decide (m.dst = 281474976710655)) = false ∨ isId m.src = false ∨ m.seq < 0 ∨ 255 < m.seq then 2
  else if m.kind < 1 ∨ 7 < m.kind then 1
  else if m.par < 0 ∨ 65535 < m.par then 2
  else if 255 < m.dat.size then 13
  else if 0 ≤ lenOf m.kind ∧ (m.dat.size : Int) ≠ lenOf m.kind then 14
  else if m.kind = 1 then
    (if isId (numOf (m.dat.data.toList.take 6)) = false ∨ isId (numOf (m.dat.data.toList.drop 6)) = false then 2
     else if numOf (m.dat.data.toList.drop 6) < numOf (m.dat.data.toList.take 6) then 9 else 0)
  else 0

end Go.Proofs.YtpkhcehddfmhpaaGreat

namespace Go.Proofs.YtpkhcehddfmhpaaGreat
open Go.RowKit

set_option maxHeartbeats 400000 in
theorem is_any (n : Int) (w : World) :
    Calls Tryz.prog 81 #[.int .u64 n] w fun e w' => e = .returned (.bool (isId n)) ∧ w = w' := by
  go_enter Tryz.func81, Tryz.ntmps81
  go_wp2
  all_goals go_ret
  all_goals exact ⟨ret_bool (by grind [isId]), rfl⟩

set_option maxHeartbeats 400000 in
theorem Is_any (n : Int) (w : World) :
    Calls Tryz.prog 129 #[.int .u64 n] w fun e w' => e = .returned (.bool (isId n)) ∧ w = w' := by
  go_enter Tryz.func129, Tryz.ntmps129
  go_wp2
  all_goals go_ret
  all_goals exact ⟨ret_bool (by grind [isId]), rfl⟩

set_option maxHeartbeats 400000 in
theorem length_any (k : Int) (w : World) :
    Calls Tryz.prog 131 #[.int .i64 k] w fun e w' => e = .returned (.int .i64 (lenOf k)) ∧ w = w' := by
  go_enter Tryz.func131, Tryz.ntmps131
  go_wp2
  all_goals go_ret
  all_goals exact ⟨ret_int (by grind [lenOf]), rfl⟩

end Go.Proofs.YtpkhcehddfmhpaaGreat

namespace Go.Proofs.YtpkhcehddfmhpaaGreat
open Go.RowKit

set_option maxHeartbeats 400000 in
theorem named_any (n : Int) (w : World) :
    Calls Tryz.prog 112 #[.int .u64 n] w fun e w' => e = .returned (.bool (isId n)) ∧ w = w' := by
  go_enter Tryz.func112, Tryz.ntmps112
  go_wp2
  all_goals go_ret
  all_goals exact ⟨ret_bool (by grind [isId]), rfl⟩

/-- The slots of a device are there. -/
def fitsB (ad ft : Int) : Bool := decide (1 ≤ ad ∧ ad ≤ 512 ∧ ad + ft - 1 ≤ 512)

set_option maxHeartbeats 400000 in
theorem fits_any (b : Nat) (ft ad : Int) (w : World) (h1 : 1 ≤ ft) (h2 : ft ≤ 512) (hc : w.cell? ⟨b, 1, none⟩ = some (.int .i64 ft)) :
    Calls Tryz.prog 113 #[.pointer (some ⟨b, 0, none⟩), .int .i64 ad] w fun e w' => e = .returned (.bool (fitsB ad ft)) ∧ w = w' := by
  go_enter Tryz.func113, Tryz.ntmps113
  go_wp2
  all_goals go_ret
  all_goals exact ⟨ret_bool (by grind [fitsB]), rfl⟩

set_option maxHeartbeats 400000 in
theorem Fits_any (ft ad : Int) (w : World) (h1 : 1 ≤ ft) (h2 : ft ≤ 512) :
    Calls Tryz.prog 180 #[.int .i64 ad, .int .i64 ft] w fun e w' => e = .returned (.bool (fitsB ad ft)) ∧ w = w' := by
  go_enter Tryz.func180, Tryz.ntmps180
  go_wp2
  all_goals go_ret
  all_goals exact ⟨ret_bool (by grind [fitsB]), rfl⟩

end Go.Proofs.YtpkhcehddfmhpaaGreat

namespace Go.Proofs.YtpkhcehddfmhpaaGreat
open Go.RowKit

theorem numOf_take_lt (s : ByteArray) (k : Nat) (hk : k ≤ 7) : numOf (s.data.toList.take k) < 72057594037927936 := by
  have h := numOf_lt (s.data.toList.take k)
  have h2 : (s.data.toList.take k).length ≤ k := List.length_take_le _ _
  have h3 : 256 ^ (s.data.toList.take k).length ≤ 256 ^ 7 := Nat.pow_le_pow_right (by omega) (by omega)
  have h4 : (256 : Nat) ^ 7 = 72057594037927936 := by decide
  omega

theorem num_add (a : Nat) (b : UInt8) (h : a < 72057594037927936) : IntKind.u64.wrap (256 * (a : Int) + IntKind.u64.wrap (b.toNat : Int)) = ((a * 256 + b.toNat : Nat) : Int) := by
  have := b.toNat_lt
  rw [IntWalk.u64_in (b.toNat : Int) (by omega), IntWalk.u64_in _ (by omega)]
  omega

theorem num_or (a : Nat) (b : UInt8) (h : a < 72057594037927936) : bits BinOp.or .u64 ((a : Int) * 256) (IntKind.u64.wrap (b.toNat : Int)) = ((a * 256 + b.toNat : Nat) : Int) := by
  have hb := b.toNat_lt
  rw [IntWalk.u64_in (b.toNat : Int) (by omega)]
  have h1 : ((a : Int) * 256) = ((a * 256 : Nat) : Int) := by omega
  rw [h1, bits_or_u64_nat _ _ (by omega) (by omega)]
  have h2 := Nat.two_pow_add_eq_or_of_lt (i := 8) (b := b.toNat) (by omega) a
  rw [show a * 256 = 2 ^ 8 * a from by omega, ← h2]

set_option maxHeartbeats 400000 in
theorem refnumber_any (s : ByteArray) (w : World) (hs : s.size ≤ 7) :
    Calls Tryz.prog 132 #[.string s] w fun e w' => e = .returned (.int .u64 (numOf s.data.toList)) ∧ w = w' := by
  go_enter Tryz.func132, Tryz.ntmps132
  go_wp2
  go_loop [3, 4] (fun n i => ∃ k : Nat, k ≤ s.size ∧ i = .int .i64 k ∧ n = .int .u64 (numOf (s.data.toList.take k))) (fun _ i => s.size - (intOf i).toNat)
  case atStart => exact ⟨0, Nat.zero_le _, rfl, rfl⟩
  case round =>
    obtain ⟨k, hk, rfl, rfl⟩ := hrel
    by_cases hlt : k < s.size
    · have hb := numOf_take_lt s k (by omega)
      have hsn := numOf_snoc (s.data.toList.take k) s[k]
      have hts := take_snoc s k hlt
      have HS : Hid (numOf (s.data.toList.take (k + 1)) = numOf (s.data.toList.take k) * 256 + s[k].toNat) := by rw [hts]; exact hsn
      clear hsn hts
      go_wp2
      go_round
      case rel => exact ⟨k + 1, by omega, by go_num, by rw [HS.out, num_add _ _ hb]⟩
      case measure => simp [intOf]; omega
    · go_wp2
      go_ret
      exact ⟨ret_int (by rw [List.take_of_length_le (by simp; omega)]), rfl⟩

set_option maxHeartbeats 400000 in
theorem number_any (s : ByteArray) (w : World) (hs : s.size ≤ 7) :
    Calls Tryz.prog 59 #[.string s] w fun e w' => e = .returned (.int .u64 (numOf s.data.toList)) ∧ w = w' := by
  go_enter Tryz.func59, Tryz.ntmps59
  go_wp2
  go_loop [3, 7] (fun n i => ∃ k : Nat, k ≤ s.size ∧ i = .int .i64 k ∧ n = .int .u64 (numOf (s.data.toList.take k))) (fun _ i => s.size - (intOf i).toNat)
  case atStart => exact ⟨0, Nat.zero_le _, rfl, rfl⟩
  case round =>
    obtain ⟨k, hk, rfl, rfl⟩ := hrel
    by_cases hlt : k < s.size
    · have hb := numOf_take_lt s k (by omega)
      have hsn := numOf_snoc (s.data.toList.take k) s[k]
      have hts := take_snoc s k hlt
      have HS : Hid (numOf (s.data.toList.take (k + 1)) = numOf (s.data.toList.take k) * 256 + s[k].toNat) := by rw [hts]; exact hsn
      clear hsn hts
      go_wp2
      go_round
      case rel => exact ⟨k + 1, by omega, by go_num, by rw [HS.out, num_or _ _ hb]⟩
      case measure => simp [intOf]; omega
    · go_wp2
      go_ret
      exact ⟨ret_int (by rw [List.take_of_length_le (by simp; omega)]), rfl⟩
end Go.Proofs.YtpkhcehddfmhpaaGreat

namespace Go.Proofs.YtpkhcehddfmhpaaGreat
open Go.RowKit

theorem Tryz.info_u8 : (Tryz.prog.info? 5).map (fun i => (i.zero, i.size, i.bytes)) = some (some (.int .u8 0), 1, 1) := by kernel_rfl

/-- A number's bytes, the highest one first. -/
def bytesB (n c : Int) : ByteArray := str (bytesOf n.toNat c.toNat)

/-- The cells of some bytes. -/
def u8s (l : List UInt8) : Array Value := (l.map fun b => Value.int .u8 (b.toNat : Int)).toArray

theorem strOfNums_bytes (l : List UInt8) : strOfNums (l.map fun b => (b.toNat : Int)) = str l := by
  simp [strOfNums, str, Function.comp_def]

theorem conv_new (w : World) (l : List UInt8) (n : Nat) (hl : l.length = n) :
    (convert 73 9 (.slice (some ⟨w.heap.size, 0, none⟩) n n)).run Tryz.prog (w.alloc (.cells (u8s l) 5)) = .ok (.string (str l)) (w.alloc (.cells (u8s l) 5)) := by
  rw [← strOfNums_bytes]
  refine run_convert_bytes_arg (w.alloc (.cells (u8s l) 5)) 73 5 Tryz.underlying73 Tryz.underlying5 w.heap.size 0 n n _ (by simpa using hl) (fun i hi => ?_) 9 Tryz.underlying9
  rw [Nat.zero_add, cell_of_row _ w.heap.size i (u8s l) 5 (0, 0) (heap_alloc_new w _)]
  simp [u8s, List.getElem?_map, List.getElem?_eq_getElem (show i < l.length by omega)]

/-- Of the bytes of a number the first `k` are in place, behind them there is nothing yet. -/
def upTo (n c k : Nat) : List UInt8 := (bytesOf n c).take k ++ List.replicate (c - k) 0

theorem upTo_length (n c k : Nat) (hk : k ≤ c) : (upTo n c k).length = c := by
  simp [upTo, bytesOf_length]; omega
theorem upTo_all (n c : Nat) : upTo n c c = bytesOf n c := by
  simp [upTo, List.take_of_length_le, bytesOf_length]

theorem bytesOf_get (n c j : Nat) (hj : j < c) : (bytesOf n c)[j]? = some (UInt8.ofNat (n / 256 ^ (c - 1 - j))) := by
  induction c generalizing n with
  | zero => omega
  | succ c ih =>
    rw [bytesOf]
    by_cases h : j < c
    · rw [List.getElem?_append_left (by rw [bytesOf_length]; exact h), ih _ h, Nat.div_div_eq_div_mul, show c + 1 - 1 - j = (c - 1 - j) + 1 from by omega, Nat.pow_succ, Nat.mul_comm]
    · have : j = c := by omega
      subst this
      rw [List.getElem?_append_right (by rw [bytesOf_length]; omega), bytesOf_length]
      simp

theorem u8s_set (l : List UInt8) (k : Nat) (b : UInt8) : (u8s l).setIfInBounds k (.int .u8 (b.toNat : Int)) = u8s (l.set k b) := by
  simp [u8s, List.map_set]

theorem upTo_succ (n c k : Nat) (hk : k < c) : (upTo n c k).set k (UInt8.ofNat (n / 256 ^ (c - 1 - k))) = upTo n c (k + 1) := by
  have hg := bytesOf_get n c k hk
  have hl : ((bytesOf n c).take k).length = k := by simp [bytesOf_length]; omega
  rw [upTo, List.set_append_right _ _ (by omega), hl, Nat.sub_self, show c - k = (c - (k + 1)) + 1 from by omega, List.replicate_succ, List.set_cons_zero, upTo,
    List.take_add_one, hg]
  simp

theorem made_u8 (w : World) (c n : Nat) (hc : c ≤ 100) : (Instr.makeSlice 73 (.int .i64 (c : Int)) (.int .i64 (c : Int))).run Tryz.prog w = .ok (.slice (some ⟨w.heap.size, 0, none⟩) c c) (w.alloc (.cells (u8s (upTo n c 0)) 5)) := by
  obtain ⟨i, hi, hz0, hz1, hz2⟩ := info_parts Tryz.info_u8
  have h := run_make (P := Tryz.prog) w 73 5 i _ Tryz.underlying73 hi hz0 .i64 .i64 (c : Int) (c : Int) (by omega) (by omega) (by rw [hz2]; omega) (by omega)
  rw [h]
  have e : madeCells (Value.int IntKind.u8 0).cells ((c : Int).toNat * i.size) = u8s (upTo n c 0) := by
    apply Array.toList_inj.1
    rw [hz1]
    show (madeCells #[Value.int IntKind.u8 0] _).toList = _
    rw [toList_madeCells_one]
    simp [u8s, upTo]
  rw [e]
  rfl

/-- A shift by whole bytes. -/
theorem shr_bytes (n j : Nat) (y : Int) (hy : y = 8 * (j : Int)) (hn : n < 18446744073709551616) : Op.shift .shr .u64 (n : Int) .i64 y = pure (.int .u64 ((n / 256 ^ j : Nat) : Int)) := by
  subst hy
  rw [shift_shr_any _ _ _ _ (by omega)]
  have h := u64_shr_var (n : Int) (8 * (j : Int)) (by omega) (by omega)
  rw [show IntKind.u64.bits = 64 from rfl, h, show (8 * (j : Int)).toNat = 8 * j from by omega]
  have e : (256 : Nat) ^ j = 2 ^ (8 * j) := by rw [Nat.pow_mul]
  by_cases hj : (64 : Int) ≤ 8 * (j : Int)
  · rw [if_pos hj]
    have hlt : n < 256 ^ j := by
      have : (256 : Nat) ^ 8 ≤ 256 ^ j := Nat.pow_le_pow_right (by omega) (by omega)
      have h8 : (256 : Nat) ^ 8 = 18446744073709551616 := by decide
      omega
    rw [Nat.div_eq_of_lt hlt]
    rfl
  · rw [if_neg hj, e]
    simp

set_option maxHeartbeats 400000 in
theorem bytes_nat (n c : Nat) (w : World) (hn : n < 18446744073709551616) (hc : c ≤ 100) :
    Calls Tryz.prog 39 #[.int .u64 n, .int .i64 c] w fun e w' => e = .returned (.string (str (bytesOf n c))) ∧ Below w.heap.size w w' := by
  have hmk := fun w => made_u8 w c n hc
  go_enter Tryz.func39, Tryz.ntmps39
  go_wp2
  go_loopw [11] (fun i wr => ∃ k : Nat, k ≤ c ∧ i = .int .i64 k ∧ wr = w.alloc (.cells (u8s (upTo n c k)) 5)) (fun i _ => c - (intOf i).toNat)
  case atStart => exact ⟨0, Nat.zero_le _, rfl, rfl⟩
  case round =>
    obtain ⟨k, hk, rfl, rfl⟩ := hrel
    by_cases hlt : k < c
    · have hsh := shr_bytes n (c - 1 - k) (8 * ((c : Int) - 1 - (k : Int))) (by omega) hn
      obtain ⟨v, hv⟩ : ∃ v, (u8s (upTo n c k))[k]? = some v := ⟨_, Array.getElem?_eq_getElem (by simp [u8s, upTo_length n c k hk, hlt])⟩
      go_wp2
      go_roundw
      case rel => exact ⟨k + 1, by omega, by go_num, by rw [← upTo_succ n c k hlt, ← u8s_set]; congr 3⟩
      case measure => simp [intOf]; omega
    · obtain rfl : k = c := by omega
      have hcv := conv_new w (upTo n k k) k (upTo_length n k k hk)
      go_wp2
      go_ret
      exact ⟨ret_str (by rw [upTo_all]), (Below.refl _ _).alloc (Nat.le_refl _) _⟩

theorem bytes_any (n c : Int) (w : World) (h0 : 0 ≤ n) (hn : n < 18446744073709551616) (h1 : 0 ≤ c) (hc : c ≤ 100) :
    Calls Tryz.prog 39 #[.int .u64 n, .int .i64 c] w fun e w' => e = .returned (.string (bytesB n c)) ∧ Below w.heap.size w w' := by
  obtain ⟨n, rfl⟩ := Int.eq_ofNat_of_zero_le h0
  obtain ⟨c, rfl⟩ := Int.eq_ofNat_of_zero_le h1
  exact bytes_nat n c w (by omega) (by omega)

/-- Of the bytes of a number the last `k` are in place, ahead of them there is nothing yet. -/
def downTo (n c k : Nat) : List UInt8 := List.replicate (c - k) 0 ++ (bytesOf n c).drop (c - k)

theorem downTo_length (n c k : Nat) (_hk : k ≤ c) : (downTo n c k).length = c := by
  simp [downTo, bytesOf_length]
theorem downTo_all (n c : Nat) : downTo n c c = bytesOf n c := by
  simp [downTo]
theorem downTo_none (n c : Nat) : downTo n c 0 = upTo n c 0 := by
  simp [downTo, upTo, List.drop_of_length_le, bytesOf_length]

theorem downTo_succ (n c k : Nat) (hk : k < c) : (downTo n c k).set (c - 1 - k) (UInt8.ofNat (n / 256 ^ k)) = downTo n c (k + 1) := by
  have hg := bytesOf_get n c (c - 1 - k) (by omega)
  rw [show c - 1 - (c - 1 - k) = k from by omega] at hg
  apply List.ext_getElem?
  intro j
  rw [List.getElem?_set]
  by_cases hj : c - 1 - k = j
  · subst hj
    rw [if_pos rfl, if_pos (by rw [downTo_length n c k (by omega)]; omega), downTo, List.getElem?_append_right (by simp; omega), List.length_replicate, List.getElem?_drop,
      show c - (k + 1) + (c - 1 - k - (c - (k + 1))) = c - 1 - k from by omega, hg]
  · rw [if_neg hj, downTo, downTo]
    by_cases h1 : j < c - (k + 1)
    · rw [List.getElem?_append_left (by simp; omega), List.getElem?_append_left (by simp; omega), List.getElem?_replicate, List.getElem?_replicate, if_pos (by omega), if_pos (by omega)]
    · rw [List.getElem?_append_right (by simp; omega), List.getElem?_append_right (by simp; omega), List.length_replicate, List.length_replicate, List.getElem?_drop, List.getElem?_drop]
      congr 1
      omega

theorem conv_one (w : World) (m : Nat) :
    (convert 73 9 (.slice (some ⟨w.heap.size, 0, none⟩) 1 1)).run Tryz.prog (w.alloc (.cells #[.int .u8 ((m : Int) % 256)] 5)) = .ok (.string (str [UInt8.ofNat m])) (w.alloc (.cells #[.int .u8 ((m : Int) % 256)] 5)) := by
  have h := conv_new w [UInt8.ofNat m] 1 rfl
  have e : u8s [UInt8.ofNat m] = #[.int .u8 ((m : Int) % 256)] := by simp [u8s]
  rw [e] at h
  exact h

theorem str_cons (b : UInt8) (l : List UInt8) : str [b] ++ str l = str (b :: l) := by
  simp [str, ByteArray.mk_append_mk]

theorem str_size (l : List UInt8) : (str l).size = l.length := by simp [str, ByteArray.size]

theorem bytesOf_cons (n c : Nat) : UInt8.ofNat (n / 256 ^ c) :: bytesOf n c = bytesOf n (c + 1) := by
  induction c generalizing n with
  | zero => simp [bytesOf]
  | succ c ih =>
    rw [bytesOf, ← List.cons_append, show n / 256 ^ (c + 1) = n / 256 / 256 ^ c from by rw [Nat.div_div_eq_div_mul, Nat.pow_succ, Nat.mul_comm], ih]
    rfl

end Go.Proofs.YtpkhcehddfmhpaaGreat

namespace Go.Proofs.YtpkhcehddfmhpaaGreat
open Go.RowKit

set_option maxHeartbeats 400000 in
theorem rbytes_nat (n c : Nat) (w : World) (hn : n < 18446744073709551616) (hc : c ≤ 100) :
    Calls Tryz.prog 159 #[.int .u64 n, .int .i64 c] w fun e w' => e = .returned (.string (str (bytesOf n c))) ∧ Below w.heap.size w w' := by
  have hmk := fun w => made_u8 w c n hc
  go_enter Tryz.func159, Tryz.ntmps159
  go_wp2
  go_loopw [11] (fun i wr => ∃ k : Nat, k ≤ c ∧ i = .int .i64 k ∧ wr = w.alloc (.cells (u8s (downTo n c k)) 5)) (fun i _ => c - (intOf i).toNat)
  case atStart => exact ⟨0, Nat.zero_le _, rfl, by rw [downTo_none]⟩
  case round =>
    obtain ⟨k, hk, rfl, rfl⟩ := hrel
    by_cases hlt : k < c
    · have hsh := shr_bytes n k (8 * (k : Int)) (by omega) hn
      obtain ⟨v, hv⟩ : ∃ v, (u8s (downTo n c k))[c - 1 - k]? = some v := ⟨_, Array.getElem?_eq_getElem (by simp [u8s, downTo_length n c k hk]; omega)⟩
      go_wp2
      go_roundw
      case rel => exact ⟨k + 1, by omega, by go_num, by rw [← downTo_succ n c k hlt, ← u8s_set]; congr 3⟩
      case measure => simp [intOf]; omega
    · obtain rfl : k = c := by omega
      have hcv := conv_new w (downTo n k k) k (downTo_length n k k hk)
      go_wp2
      go_ret
      exact ⟨ret_str (by rw [downTo_all]), (Below.refl _ _).alloc (Nat.le_refl _) _⟩

theorem rbytes_any (n c : Int) (w : World) (h0 : 0 ≤ n) (hn : n < 18446744073709551616) (h1 : 0 ≤ c) (hc : c ≤ 100) :
    Calls Tryz.prog 159 #[.int .u64 n, .int .i64 c] w fun e w' => e = .returned (.string (bytesB n c)) ∧ Below w.heap.size w w' := by
  obtain ⟨n, rfl⟩ := Int.eq_ofNat_of_zero_le h0
  obtain ⟨c, rfl⟩ := Int.eq_ofNat_of_zero_le h1
  exact rbytes_nat n c w (by omega) (by omega)

set_option maxHeartbeats 400000 in
set_option maxRecDepth 100000 in
theorem sbytes_nat (n c : Nat) (w : World) (hn : n < 9223372036854775808) (hc : c ≤ 100) :
    Calls Tryz.prog 184 #[.int .i64 n, .int .i64 c] w fun e w' => e = .returned (.string (str (bytesOf n c))) ∧ Below w.heap.size w w' := by
  go_enter Tryz.func184, Tryz.ntmps184
  go_wp2
  go_loopw [0, 5, 6] (fun x s i wr => ∃ k m : Nat, k ≤ c ∧ i = .int .i64 k ∧ x = .int .i64 m ∧ s = .string (str (bytesOf n k)) ∧ Hid (m = n / 256 ^ k) ∧ m < 9223372036854775808 ∧ Below w.heap.size w wr) (fun _ _ i _ => c - (intOf i).toNat)
  case atStart => exact ⟨0, n, Nat.zero_le _, rfl, rfl, rfl, by simp [Hid], hn, Below.refl _ _⟩
  case round =>
    obtain ⟨k, m, hk, rfl, rfl, rfl, hm, hmlt, hbel⟩ := hrel
    by_cases hlt : k < c
    · have hcv := conv_one wr m
      have hs1 := str_size [UInt8.ofNat m]
      have hs2 : (str (bytesOf n k)).size ≤ 100 := by rw [str_size, bytesOf_length]; omega
      go_wp2
      go_roundw
      case rel => exact ⟨k + 1, m / 256, by omega, by go_num, by go_num, by rw [str_cons, hm.out, bytesOf_cons], by rw [hm.out, Nat.div_div_eq_div_mul, ← Nat.pow_succ]; rfl, by omega, hbel.alloc hbel.size _⟩
      case measure => simp [intOf]; omega
    · obtain rfl : k = c := by omega
      go_wp2
      go_ret
      exact ⟨rfl, hbel⟩

theorem sbytes_any (n c : Int) (w : World) (h0 : 0 ≤ n) (hn : n < 9223372036854775808) (h1 : 0 ≤ c) (hc : c ≤ 100) :
    Calls Tryz.prog 184 #[.int .i64 n, .int .i64 c] w fun e w' => e = .returned (.string (bytesB n c)) ∧ Below w.heap.size w w' := by
  obtain ⟨n, rfl⟩ := Int.eq_ofNat_of_zero_le h0
  obtain ⟨c, rfl⟩ := Int.eq_ofNat_of_zero_le h1
  exact sbytes_nat n c w (by omega) (by omega)

end Go.Proofs.YtpkhcehddfmhpaaGreat

namespace Go.Proofs.YtpkhcehddfmhpaaGreat
open Go.RowKit

section
variable {P : Program} {w : World} {t kt et : TypeId} {q : IntKind} {es : Array MapEntry} {c : Nat}

theorem run_checkKey_int (b : Bool) (n : Nat) (a : Int) (hk : P.underlying kt = some (.int q)) : (Instr.checkKey b (n + 1) kt (.int q a)).run P w = .ok () w := by
  unfold Instr.checkKey
  simp [run_underlying hk]

theorem run_findKey_int (a : Int) (l : List MapEntry) (r : Option (Nat × Value)) (hk : P.underlying kt = some (.int q)) (hf : Instr.findNow (.int q) (.int q a) l 0 = some r) :
    (Instr.findKey kt (.int q a) l).run P w = .ok r w := by
  simp [Instr.findKey, run_underlying hk, hf]

theorem setIfInBounds_push_last {α : Type} (a : Array α) (x y : α) : (a.push x).setIfInBounds a.size y = a.push y := by
  apply Array.ext_getElem?
  intro i
  rw [Array.getElem?_setIfInBounds, Array.getElem?_push, Array.getElem?_push]
  by_cases h : a.size = i
  · subst h; simp
  · rw [if_neg h]
    have h' : i ≠ a.size := fun e => h e.symm
    simp [h']

theorem run_update_new (a : Int) (v : Value) (ht : P.underlying t = some (.map kt et)) (hk : P.underlying kt = some (.int q)) (hf : Instr.findNow (.int q) (.int q a) es.toList 0 = some none) :
    (Instr.mapUpdate t (.map (some w.heap.size)) (.int q a) v).run P (w.alloc (.map es c)) = .ok () (w.alloc (.map (es.push { key := .int q a, val := v, born := c }) (c + 1))) := by
  have hg : (getObj w.heap.size).run P (w.alloc (.map es c)) = .ok (.map es c) (w.alloc (.map es c)) := by
    simp only [getObj, Sem.run, heap_alloc_new]
  have hs : ∀ o, (setObj w.heap.size o).run P (w.alloc (.map es c)) = .ok () (w.alloc o) := by
    intro o
    simp only [setObj, Sem.run, heap_alloc_new]
    congr 1
    show { w.alloc (.map es c) with heap := (w.heap.push (.map es c)).setIfInBounds w.heap.size o } = _
    rw [setIfInBounds_push_last]
    rfl
  unfold Instr.mapUpdate
  simp [run_underlying ht, hg, run_checkKey_int false 9999 a hk, run_findKey_int a es.toList none hk hf, hs]

theorem run_lookup_ok (a : Int) (b : Nat) (r : Option (Nat × Value)) (z : Value) (hz : (zeroValue et).run P w = .ok z w) (ht : P.underlying t = some (.map kt et)) (hk : P.underlying kt = some (.int q))
    (hb : w.heap[b]? = some (.map es c)) (hf : Instr.findNow (.int q) (.int q a) es.toList 0 = some r) (ok : Bool) :
    (Instr.lookup t (.map (some b)) (.int q a) ok).run P w = .ok (if ok then .tuple #[(r.map (·.2)).getD z, .bool r.isSome] else (r.map (·.2)).getD z) w := by
  have hg : (getObj b).run P w = .ok (.map es c) w := by simp only [getObj, Sem.run, hb]
  unfold Instr.lookup
  cases r with
  | none => cases ok <;> simp [run_underlying ht, hg, run_checkKey_int _ 9999 a hk, run_findKey_int a es.toList _ hk hf, hz]
  | some x => cases ok <;> simp [run_underlying ht, hg, run_checkKey_int _ 9999 a hk, run_findKey_int a es.toList _ hk hf]
end

/-- The map of the lengths. -/
def lenMap : Array MapEntry := #[{ key := .int .i64 1, val := .int .i64 12, born := 0 }, { key := .int .i64 2, val := .int .i64 0, born := 1 },
  { key := .int .i64 3, val := .int .i64 0, born := 2 }, { key := .int .i64 7, val := .int .i64 1, born := 3 }]

def lenFind (k : Int) : Option (Nat × Value) :=
  if k = 1 then some (0, .int .i64 12) else if k = 2 then some (1, .int .i64 0) else if k = 3 then some (2, .int .i64 0) else if k = 7 then some (3, .int .i64 1) else none

theorem lenMap_find (k : Int) : Instr.findNow (.int .i64) (.int .i64 k) lenMap.toList 0 = some (lenFind k) := by
  unfold lenFind
  by_cases h1 : k = 1
  · subst h1; rfl
  by_cases h2 : k = 2
  · subst h2; rfl
  by_cases h3 : k = 3
  · subst h3; rfl
  by_cases h7 : k = 7
  · subst h7; rfl
  have b1 : (k == 1) = false := beq_eq_false_iff_ne.2 h1
  have b2 : (k == 2) = false := beq_eq_false_iff_ne.2 h2
  have b3 : (k == 3) = false := beq_eq_false_iff_ne.2 h3
  have b7 : (k == 7) = false := beq_eq_false_iff_ne.2 h7
  simp only [lenMap, Instr.findNow, Instr.sameNow, if_true, b1, b2, b3, b7, h1, h2, h3, h7, if_false]

theorem Tryz.zero_int (w : World) : (zeroValue 3).run Tryz.prog w = .ok (.int .i64 0) w := by kernel_rfl

/-- The length of a kind's data, and whether it has one. -/
def lenVal (k : Int) : Int := if lenOf k = -1 then 0 else lenOf k
def lenHas (k : Int) : Bool := decide (lenOf k ≠ -1)

set_option maxHeartbeats 400000 in
set_option maxRecDepth 100000 in
theorem lengths_any (k : Int) (w : World) :
    Calls Tryz.prog 82 #[.int .i64 k] w fun e w' => e = .returned (.tuple #[.int .i64 (lenVal k), .bool (lenHas k)]) ∧ Below w.heap.size w w' := by
  have hmm := @run_makeMap Tryz.prog
  have h1 : (Instr.mapUpdate 192 (.map (some w.heap.size)) (.int .i64 1) (.int .i64 12)).run Tryz.prog (w.alloc (.map #[] 0)) = .ok () (w.alloc (.map #[{ key := .int .i64 1, val := .int .i64 12, born := 0 }] 1)) :=
    run_update_new 1 (.int .i64 12) Tryz.underlying192 Tryz.underlying3 rfl
  have h2 : (Instr.mapUpdate 192 (.map (some w.heap.size)) (.int .i64 2) (.int .i64 0)).run Tryz.prog (w.alloc (.map #[{ key := .int .i64 1, val := .int .i64 12, born := 0 }] 1)) = .ok () (w.alloc (.map #[{ key := .int .i64 1, val := .int .i64 12, born := 0 }, { key := .int .i64 2, val := .int .i64 0, born := 1 }] 2)) :=
    run_update_new 2 (.int .i64 0) Tryz.underlying192 Tryz.underlying3 rfl
  have h3 : (Instr.mapUpdate 192 (.map (some w.heap.size)) (.int .i64 3) (.int .i64 0)).run Tryz.prog (w.alloc (.map #[{ key := .int .i64 1, val := .int .i64 12, born := 0 }, { key := .int .i64 2, val := .int .i64 0, born := 1 }] 2)) = .ok () (w.alloc (.map #[{ key := .int .i64 1, val := .int .i64 12, born := 0 }, { key := .int .i64 2, val := .int .i64 0, born := 1 }, { key := .int .i64 3, val := .int .i64 0, born := 2 }] 3)) :=
    run_update_new 3 (.int .i64 0) Tryz.underlying192 Tryz.underlying3 rfl
  have h4 : (Instr.mapUpdate 192 (.map (some w.heap.size)) (.int .i64 7) (.int .i64 1)).run Tryz.prog (w.alloc (.map #[{ key := .int .i64 1, val := .int .i64 12, born := 0 }, { key := .int .i64 2, val := .int .i64 0, born := 1 }, { key := .int .i64 3, val := .int .i64 0, born := 2 }] 3)) = .ok () (w.alloc (.map #[{ key := .int .i64 1, val := .int .i64 12, born := 0 }, { key := .int .i64 2, val := .int .i64 0, born := 1 }, { key := .int .i64 3, val := .int .i64 0, born := 2 }, { key := .int .i64 7, val := .int .i64 1, born := 3 }] 4)) :=
    run_update_new 7 (.int .i64 1) Tryz.underlying192 Tryz.underlying3 rfl
  have h5 := run_lookup_ok (P := Tryz.prog) (w := w.alloc (.map lenMap 4)) (es := lenMap) (c := 4) k w.heap.size (lenFind k) (.int .i64 0) (Tryz.zero_int _) Tryz.underlying192 Tryz.underlying3 (heap_alloc_new w _) (lenMap_find k) true
  have e5 : (if true then Value.tuple #[((lenFind k).map (·.2)).getD (.int .i64 0), .bool (lenFind k).isSome] else ((lenFind k).map (·.2)).getD (.int .i64 0)) = .tuple #[.int .i64 (lenVal k), .bool (lenHas k)] := by
    unfold lenFind lenVal lenHas lenOf
    by_cases k1 : k = 1
    · subst k1; rfl
    by_cases k2 : k = 2
    · subst k2; rfl
    by_cases k3 : k = 3
    · subst k3; rfl
    by_cases k7 : k = 7
    · subst k7; rfl
    simp [k1, k2, k3, k7]
  rw [e5] at h5
  clear e5
  simp only [lenMap] at h5
  go_enter Tryz.func82, Tryz.ntmps82
  go_wp2
  go_ret2
  exact ⟨rfl, (Below.refl _ _).alloc (Nat.le_refl _) _⟩
end Go.Proofs.YtpkhcehddfmhpaaGreat
