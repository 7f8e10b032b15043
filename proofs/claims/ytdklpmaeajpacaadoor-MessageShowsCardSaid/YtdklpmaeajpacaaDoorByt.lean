/-
  Contracts of the loops that turn numbers into bytes.
-/
import Derived.Test.YtdklpmaeajpacaaDoorNum
namespace Go.Proofs.YtdklpmaeajpacaaDoor
open Go.RowKit

theorem Tryd.info_u8 : (Tryd.prog.info? 5).map (fun i => (i.zero, i.size, i.bytes)) = some (some (.int .u8 0), 1, 1) := by kernel_rfl

/-- A number's bytes, the highest one first. -/
def bytesB (n c : Int) : ByteArray := str (bytesOf n.toNat c.toNat)

/-- The cells of some bytes. -/
def u8s (l : List UInt8) : Array Value := (l.map fun b => Value.int .u8 (b.toNat : Int)).toArray

theorem strOfNums_bytes (l : List UInt8) : strOfNums (l.map fun b => (b.toNat : Int)) = str l := by
  simp [strOfNums, str, Function.comp_def]

theorem conv_new (w : World) (l : List UInt8) (n : Nat) (hl : l.length = n) :
    (convert 47 9 (.slice (some ⟨w.heap.size, 0, none⟩) n n)).run Tryd.prog (w.alloc (.cells (u8s l) 5)) = .ok (.string (str l)) (w.alloc (.cells (u8s l) 5)) := by
  rw [← strOfNums_bytes]
  refine run_convert_bytes_arg (w.alloc (.cells (u8s l) 5)) 47 5 Tryd.underlying47 Tryd.underlying5 w.heap.size 0 n n _ (by simpa using hl) (fun i hi => ?_) 9 Tryd.underlying9
  rw [Nat.zero_add, cell_of_row _ w.heap.size i (u8s l) 5 (0, 0) (heap_alloc_new w _)]
  simp [u8s, List.getElem?_map, List.getElem?_eq_getElem (show i < l.length by omega)]

/-- Of the bytes of a number the first `k` are in place, behind them there is nothing yet. -/
def upTo (n c k : Nat) : List UInt8 := (bytesOf n c).take k ++ List.replicate (c - k) 0

theorem upTo_length (n c k : Nat) (hk : k ≤ c) : (upTo n c k).length = c := by
  simp [upTo, bytesOf_length]; omega
theorem upTo_all (n c : Nat) : upTo n c c = bytesOf n c := by
  simp [upTo, List.take_of_length_le, bytesOf_length]

theorem bytesOf_get (n c j : Nat) (hj : j < c) : (bytesOf n c)[j]? = some (UInt8.ofNat (n / 256 ^ (c - 1 - j))) := by
  induction c generalizing n with
  | zero => omega
  | succ c ih =>
    rw [bytesOf]
    by_cases h : j < c
    · rw [List.getElem?_append_left (by rw [bytesOf_length]; exact h), ih _ h, Nat.div_div_eq_div_mul, show c + 1 - 1 - j = (c - 1 - j) + 1 from by omega, Nat.pow_succ, Nat.mul_comm]
    · have : j = c := by omega
      subst this
      rw [List.getElem?_append_right (by rw [bytesOf_length]; omega), bytesOf_length]
      simp

theorem u8s_set (l : List UInt8) (k : Nat) (b : UInt8) : (u8s l).setIfInBounds k (.int .u8 (b.toNat : Int)) = u8s (l.set k b) := by
  simp [u8s, List.map_set]

theorem upTo_succ (n c k : Nat) (hk : k < c) : (upTo n c k).set k (UInt8.ofNat (n / 256 ^ (c - 1 - k))) = upTo n c (k + 1) := by
  have hg := bytesOf_get n c k hk
  have hl : ((bytesOf n c).take k).length = k := by simp [bytesOf_length]; omega
  rw [upTo, List.set_append_right _ _ (by omega), hl, Nat.sub_self, show c - k = (c - (k + 1)) + 1 from by omega, List.replicate_succ, List.set_cons_zero, upTo,
    List.take_add_one, hg]
  simp

theorem made_u8 (w : World) (c n : Nat) (hc : c ≤ 100) : (Instr.makeSlice 47 (.int .i64 (c : Int)) (.int .i64 (c : Int))).run Tryd.prog w = .ok (.slice (some ⟨w.heap.size, 0, none⟩) c c) (w.alloc (.cells (u8s (upTo n c 0)) 5)) := by
  obtain ⟨i, hi, hz0, hz1, hz2⟩ := info_parts Tryd.info_u8
  have h := run_make (P := Tryd.prog) w 47 5 i _ Tryd.underlying47 hi hz0 .i64 .i64 (c : Int) (c : Int) (by omega) (by omega) (by rw [hz2]; omega) (by omega)
  rw [h]
  have e : madeCells (Value.int IntKind.u8 0).cells ((c : Int).toNat * i.size) = u8s (upTo n c 0) := by
    apply Array.toList_inj.1
    rw [hz1]
    show (madeCells #[Value.int IntKind.u8 0] _).toList = _
    rw [toList_madeCells_one]
    simp [u8s, upTo]
  rw [e]
  rfl

/-- A shift by whole bytes. -/
theorem shr_bytes (n j : Nat) (y : Int) (hy : y = 8 * (j : Int)) (hn : n < 18446744073709551616) : Op.shift .shr .u64 (n : Int) .i64 y = pure (.int .u64 ((n / 256 ^ j : Nat) : Int)) := by
  subst hy
  rw [shift_shr_any _ _ _ _ (by omega)]
  have h := u64_shr_var (n : Int) (8 * (j : Int)) (by omega) (by omega)
  rw [show IntKind.u64.bits = 64 from rfl, h, show (8 * (j : Int)).toNat = 8 * j from by omega]
  have e : (256 : Nat) ^ j = 2 ^ (8 * j) := by rw [Nat.pow_mul]
  by_cases hj : (64 : Int) ≤ 8 * (j : Int)
  · rw [if_pos hj]
    have hlt : n < 256 ^ j := by
      have : (256 : Nat) ^ 8 ≤ 256 ^ j := Nat.pow_le_pow_right (by omega) (by omega)
      have h8 : (256 : Nat) ^ 8 = 18446744073709551616 := by decide
      omega
    rw [Nat.div_eq_of_lt hlt]
    rfl
  · rw [if_neg hj, e]
    simp

set_option maxHeartbeats 400000 in
theorem bytes_nat (n c : Nat) (w : World) (hn : n < 18446744073709551616) (hc : c ≤ 100) :
    Calls Tryd.prog 44 #[.int .u64 n, .int .i64 c] w fun e w' => e = .returned (.string (str (bytesOf n c))) ∧ Below w.heap.size w w' := by
  have hmk := fun w => made_u8 w c n hc
  go_enter Tryd.func44, Tryd.ntmps44
  go_wp2
  go_loopw [11] (fun i wr => ∃ k : Nat, k ≤ c ∧ i = .int .i64 k ∧ wr = w.alloc (.cells (u8s (upTo n c k)) 5)) (fun i _ => c - (intOf i).toNat)
  case atStart => exact ⟨0, Nat.zero_le _, rfl, rfl⟩
  case round =>
    obtain ⟨k, hk, rfl, rfl⟩ := hrel
    by_cases hlt : k < c
    · have hsh := shr_bytes n (c - 1 - k) (8 * ((c : Int) - 1 - (k : Int))) (by omega) hn
      obtain ⟨v, hv⟩ : ∃ v, (u8s (upTo n c k))[k]? = some v := ⟨_, Array.getElem?_eq_getElem (by simp [u8s, upTo_length n c k hk, hlt])⟩
      go_wp2
      go_roundw
      case rel => exact ⟨k + 1, by omega, by go_num, by rw [← upTo_succ n c k hlt, ← u8s_set]; congr 3⟩
      case measure => simp [intOf]; omega
    · obtain rfl : k = c := by omega
      have hcv := conv_new w (upTo n k k) k (upTo_length n k k hk)
      go_wp2
      go_ret
      exact ⟨ret_str (by rw [upTo_all]), (Below.refl _ _).alloc (Nat.le_refl _) _⟩

theorem bytes_any (n c : Int) (w : World) (h0 : 0 ≤ n) (hn : n < 18446744073709551616) (h1 : 0 ≤ c) (hc : c ≤ 100) :
    Calls Tryd.prog 44 #[.int .u64 n, .int .i64 c] w fun e w' => e = .returned (.string (bytesB n c)) ∧ Below w.heap.size w w' := by
  obtain ⟨n, rfl⟩ := Int.eq_ofNat_of_zero_le h0
  obtain ⟨c, rfl⟩ := Int.eq_ofNat_of_zero_le h1
  exact bytes_nat n c w (by omega) (by omega)

/-- Of the bytes of a number the last `k` are in place, ahead of them there is nothing yet. -/
def downTo (n c k : Nat) : List UInt8 := List.replicate (c - k) 0 ++ (bytesOf n c).drop (c - k)

theorem downTo_length (n c k : Nat) (_hk : k ≤ c) : (downTo n c k).length = c := by
  simp [downTo, bytesOf_length]
theorem downTo_all (n c : Nat) : downTo n c c = bytesOf n c := by
  simp [downTo]
theorem downTo_none (n c : Nat) : downTo n c 0 = upTo n c 0 := by
  simp [downTo, upTo, List.drop_of_length_le, bytesOf_length]

theorem downTo_succ (n c k : Nat) (hk : k < c) : (downTo n c k).set (c - 1 - k) (UInt8.ofNat (n / 256 ^ k)) = downTo n c (k + 1) := by
  have hg := bytesOf_get n c (c - 1 - k) (by omega)
  rw [show c - 1 - (c - 1 - k) = k from by omega] at hg
  apply List.ext_getElem?
  intro j
  rw [List.getElem?_set]
  by_cases hj : c - 1 - k = j
  · subst hj
    rw [if_pos rfl, if_pos (by rw [downTo_length n c k (by omega)]; omega), downTo, List.getElem?_append_right (by simp; omega), List.length_replicate, List.getElem?_drop,
      show c - (k + 1) + (c - 1 - k - (c - (k + 1))) = c - 1 - k from by omega, hg]
  · rw [if_neg hj, downTo, downTo]
    by_cases h1 : j < c - (k + 1)
    · rw [List.getElem?_append_left (by simp; omega), List.getElem?_append_left (by simp; omega), List.getElem?_replicate, List.getElem?_replicate, if_pos (by omega), if_pos (by omega)]
    · rw [List.getElem?_append_right (by simp; omega), List.getElem?_append_right (by simp; omega), List.length_replicate, List.length_replicate, List.getElem?_drop, List.getElem?_drop]
      congr 1
      omega

theorem conv_one (w : World) (m : Nat) :
    (convert 47 9 (.slice (some ⟨w.heap.size, 0, none⟩) 1 1)).run Tryd.prog (w.alloc (.cells #[.int .u8 ((m : Int) % 256)] 5)) = .ok (.string (str [UInt8.ofNat m])) (w.alloc (.cells #[.int .u8 ((m : Int) % 256)] 5)) := by
  have h := conv_new w [UInt8.ofNat m] 1 rfl
  have e : u8s [UInt8.ofNat m] = #[.int .u8 ((m : Int) % 256)] := by simp [u8s]
  rw [e] at h
  exact h

theorem str_cons (b : UInt8) (l : List UInt8) : str [b] ++ str l = str (b :: l) := by
  simp [str, ByteArray.mk_append_mk]

theorem str_size (l : List UInt8) : (str l).size = l.length := by simp [str, ByteArray.size]

theorem bytesOf_cons (n c : Nat) : UInt8.ofNat (n / 256 ^ c) :: bytesOf n c = bytesOf n (c + 1) := by
  induction c generalizing n with
  | zero => simp [bytesOf]
  | succ c ih =>
    rw [bytesOf, ← List.cons_append, show n / 256 ^ (c + 1) = n / 256 / 256 ^ c from by rw [Nat.div_div_eq_div_mul, Nat.pow_succ, Nat.mul_comm], ih]
    rfl

end Go.Proofs.YtdklpmaeajpacaaDoor
