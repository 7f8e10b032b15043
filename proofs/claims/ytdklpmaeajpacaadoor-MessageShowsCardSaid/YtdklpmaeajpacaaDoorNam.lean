/-
  Names of identities: what both sides write.
-/
import Derived.Test.YtdklpmaeajpacaaDoorFmt
import Derived.Test.YtdklpmaeajpacaaDoorMsg
namespace Go.Proofs.YtdklpmaeajpacaaDoor
open Go.RowKit

theorem hexOf_add (n a b : Nat) : hexOf n (a + b) = hexOf (n / 16 ^ b) a ++ hexOf n b := by
  induction b generalizing n with
  | zero => simp [hexOf]
  | succ b ih =>
    rw [← Nat.add_assoc, hexOf, ih, hexOf, List.append_assoc, Nat.div_div_eq_div_mul, Nat.pow_succ, Nat.mul_comm]

theorem hexOf_high (a n c : Nat) : hexOf (a * 16 ^ c + n) c = hexOf n c := by
  induction c generalizing n with
  | zero => rfl
  | succ c ih =>
    rw [hexOf, hexOf]
    have h : a * 16 ^ (c + 1) = 16 * (a * 16 ^ c) := by rw [Nat.pow_succ]; grind
    rw [h, show (16 * (a * 16 ^ c) + n) / 16 = a * 16 ^ c + n / 16 from by omega, ih, show (16 * (a * 16 ^ c) + n) % 16 = n % 16 from by omega]

/-- The name of an identity. -/
def nameL (id : Nat) : List UInt8 := hexOf (id / 16 ^ 8) 4 ++ [58] ++ hexOf id 8
/-- The name of an identity, or the number of the error. -/
def nameM (id : Int) : ByteArray × Int := if isId id then (str (nameL id.toNat), 0) else (⟨#[]⟩, 2)

theorem hex13 (m : Nat) (hm : m < 281474976710656) : hexOf (281474976710656 + m) 13 = hexDig 1 :: (hexOf (m / 16 ^ 8) 4 ++ hexOf m 8) := by
  rw [← hexOf_add, hexOf_cons, show 281474976710656 + m = 1 * 16 ^ 12 + m from by omega, hexOf_high]
  congr 2
  omega

theorem c13 {n c : Nat} (h1 : 281474976710656 ≤ n) (h2 : n < 562949953421312) (h3 : n / 16 ^ c = 0) (h4 : c = 1 ∨ 0 < n / 16 ^ (c - 1)) : c = 13 := by
  have hlo : ¬ c ≤ 12 := fun h => by
    have : 16 ^ c ≤ 16 ^ 12 := Nat.pow_le_pow_right (by decide) h
    have e : (16 : Nat) ^ 12 = 281474976710656 := by decide
    have : 0 < n / 16 ^ c := Nat.div_pos (by omega) (Nat.pow_pos (by decide))
    omega
  have hhi : ¬ 14 ≤ c := fun h => by
    have : 16 ^ 13 ≤ 16 ^ (c - 1) := Nat.pow_le_pow_right (by decide) (by omega)
    have e : (16 : Nat) ^ 13 = 4503599627370496 := by decide
    rcases h4 with h4 | h4
    · omega
    · rw [Nat.div_eq_of_lt (by omega)] at h4
      omega
  omega

set_option maxHeartbeats 1000000 in
set_option maxRecDepth 100000 in
theorem fmt16_any (m : Nat) (w : World) (hm : m < 281474976710656) (h : w.cell? ⟨6, 15, none⟩ = some (.int .u8 4)) :
    Calls Tryd.prog 64 #[.int .u64 ((281474976710656 + m : Nat) : Int), .int .i64 16] w fun e w' => e = .returned (.string (str (hexOf (281474976710656 + m) 13))) ∧ Below w.heap.size w w' := by
  have hf : Calls Tryd.prog 94 #[.slice none 0 0, .int .u64 ((281474976710656 + m : Nat) : Int), .int .i64 16, .bool false, .bool false] w fun e w' => e = .returned (.tuple #[.slice none 0 0, .string (str (hexOf (281474976710656 + m) 13))]) ∧ Below w.heap.size w w' := by
    refine (fmtBits16 (281474976710656 + m) w (by omega) h).mono ?_
    rintro e w' ⟨c, rfl, h1, h2, h3, hb⟩
    obtain rfl := c13 (by omega) (by omega) h2 h3
    exact ⟨rfl, hb⟩
  obtain ⟨N, hN⟩ : ∃ N, 281474976710656 + m = N := ⟨_, rfl⟩
  rw [hN] at hf ⊢
  clear h hN hm
  go_enter Tryd.func64, Tryd.ntmps64
  go_wp2_with (first | (go_at_call 79; go_in) | (go_at_call 94; refine hf.mono ?_; rintro e w1 ⟨rfl, hb⟩))
  go_ret
  exact ⟨rfl, hb⟩

theorem str_eq_of {s : ByteArray} {l : List UInt8} (h : s.data.toList = l) : s = str l := by subst h; cases s; simp [str]

theorem name_parts (m : Nat) (hm : m < 281474976710656) :
    ((str (hexOf (281474976710656 + m) 13)).extract 1 13).extract 0 4 ++ ⟨#[58]⟩ ++ ((str (hexOf (281474976710656 + m) 13)).extract 1 13).extract 4 12 = str (nameL m) := by
  have ha := hexOf_length (m / 16 ^ 8) 4
  have hb := hexOf_length m 8
  rw [hex13 m hm, nameL]
  generalize hexOf (m / 16 ^ 8) 4 = A at *
  generalize hexOf m 8 = B at *
  apply str_eq_of
  have hab : List.take 12 (A ++ B) = A ++ B := List.take_of_length_le (by rw [List.length_append]; omega)
  have h8 : List.take 8 B = B := List.take_of_length_le (by omega)
  simp [str, hab, ← ha]
  rw [ha]
  exact h8

theorem or48 (m : Nat) (hm : m < 281474976710656) : bits BinOp.or .u64 281474976710656 (m : Int) = ((281474976710656 + m : Nat) : Int) := by
  have h := bits_or_u64_nat 281474976710656 m (by omega) (by omega)
  rw [show (281474976710656 : Int) = ((281474976710656 : Nat) : Int) from rfl, h]
  have h2 := Nat.two_pow_add_eq_or_of_lt (i := 48) (b := m) (by omega) 1
  rw [show (2 : Nat) ^ 48 * 1 = 281474976710656 from by decide] at h2
  rw [← h2]

set_option maxHeartbeats 1000000 in
set_option maxRecDepth 100000 in
theorem name_any (id : Int) (w : World) (h : w.cell? ⟨6, 15, none⟩ = some (.int .u8 4)) :
    Calls Tryd.prog 20 #[.int .u64 id] w fun e w' => e = .returned (.tuple #[.string (nameM id).1, .int .i64 (nameM id).2]) ∧ Below w.heap.size w w' := by
  obtain ⟨q, hq⟩ : ∃ q, isId id = q := ⟨_, rfl⟩
  have hi := is_any id
  rw [hq] at hi
  cases q
  · rw [nameM, hq]
    go_enter Tryd.func20, Tryd.ntmps20
    go_wp2_with (first | (go_at_call 55; refine (hi _).mono ?_; rintro e w' ⟨rfl, rfl⟩))
    go_ret2
    exact ⟨rfl, by (repeat' (first | (with_reducible exact Below.refl _ _) | (with_reducible assumption) | (with_reducible refine below_drewN ?_ _) | (with_reducible refine Below.drew ?_) | (with_reducible refine Below.setCell ?_ ?_ _) | (with_reducible refine Below.alloc ?_ ?_ _) | (with_reducible refine below_after ?_ ?_ (by assumption)) | (show _ ≤ _; first | omega | (simp; done) | (simp; omega))))⟩
  · obtain ⟨m, rfl, hm⟩ : ∃ m : Nat, id = m ∧ m < 281474976710656 := ⟨id.toNat, by simp [isId] at hq; omega, by simp [isId] at hq; omega⟩
    have hor := or48 m hm
    have hf := fmt16_any m w hm h
    have hp := name_parts m hm
    have hz : (str (hexOf (281474976710656 + m) 13)).size = 13 := by rw [str_size, hexOf_length]
    rw [nameM, hq, if_pos rfl, Int.toNat_natCast, ← hp]
    clear hp h hq
    generalize str (hexOf (281474976710656 + m) 13) = S at *
    generalize 281474976710656 + m = N at *
    have z1 : (S.extract 1 13).size = 12 := by simp [ByteArray.size_extract, hz]
    have z2 : ((S.extract 1 13).extract 0 4).size = 4 := by simp [ByteArray.size_extract, hz]
    have z3 : ((S.extract 1 13).extract 4 12).size = 8 := by simp [ByteArray.size_extract, hz]
    go_enter Tryd.func20, Tryd.ntmps20
    go_wp2_with (first | (go_at_call 55; refine (hi _).mono ?_; rintro e w' ⟨rfl, rfl⟩) | (go_at_call 64; refine (hf).mono ?_; rintro e w1 ⟨rfl, hb⟩))
    go_region
    all_goals go_wp2
    all_goals (go_ret2; exact ⟨rfl, by (repeat' (first | (with_reducible exact Below.refl _ _) | (with_reducible assumption) | (with_reducible refine below_drewN ?_ _) | (with_reducible refine Below.drew ?_) | (with_reducible refine Below.setCell ?_ ?_ _) | (with_reducible refine Below.alloc ?_ ?_ _) | (with_reducible refine below_after ?_ ?_ (by assumption)) | (show _ ≤ _; first | omega | (simp; done) | (simp; omega))))⟩)

/-- The digits of a name that are written behind some steps. -/
def nameTail (m k : Nat) : List UInt8 := if k ≤ 8 then hexOf m k else hexOf (m / 16 ^ 8) (k - 8) ++ [58] ++ hexOf m 8

theorem nameTail_all (m : Nat) : nameTail m 12 = nameL m := rfl
theorem nameTail_succ (m k : Nat) (h : k ≠ 8) (h2 : k ≤ 11) : hexDig (m / 16 ^ k % 16) :: nameTail m k = nameTail m (k + 1) := by
  by_cases hk : k < 8
  · rw [nameTail, nameTail, if_pos (by omega), if_pos (by omega), hexOf_cons]
  · rw [nameTail, nameTail, if_neg (by omega), if_neg (by omega), show k + 1 - 8 = (k - 8) + 1 from by omega, hexOf_cons (m / 16 ^ 8), Nat.div_div_eq_div_mul, ← Nat.pow_add, show 8 + (k - 8) = k from by omega]
    rfl
theorem nameTail_eight (m : Nat) : hexDig (m / 16 ^ 8 % 16) :: 58 :: nameTail m 8 = nameTail m 9 := by
  rw [nameTail, nameTail, if_pos (by omega), if_neg (by omega)]
  rfl
theorem nameTail_length (m k : Nat) (h : k ≤ 12) : (nameTail m k).length ≤ 13 := by
  rw [nameTail]
  split
  · rw [hexOf_length]; omega
  · simp [hexOf_length]; omega

def hexs : ByteArray := ⟨#[48, 49, 50, 51, 52, 53, 54, 55, 56, 57, 97, 98, 99, 100, 101, 102]⟩
theorem hexs_fin : ∀ d : Fin 16, hexs.extract d.val (d.val + 1) = str [hexDig d.val] := by decide +kernel
theorem hexs_at (d : Nat) (h : d < 16) : hexs.extract d (d + 1) = str [hexDig d] := hexs_fin ⟨d, h⟩

set_option maxHeartbeats 1000000 in
set_option maxRecDepth 100000 in
theorem refname_any (id : Int) (w : World) (h0 : 0 ≤ id) (h1 : id < 18446744073709551616) :
    Calls Tryd.prog 21 #[.int .u64 id] w fun e w' => e = .returned (.tuple #[.string (nameM id).1, .int .i64 (nameM id).2]) ∧ Below w.heap.size w w' := by
  obtain ⟨q, hq⟩ : ∃ q, isId id = q := ⟨_, rfl⟩
  have hi := Is_any id
  rw [hq] at hi
  cases q
  · rw [nameM, hq]
    go_enter Tryd.func21, Tryd.ntmps21
    go_wp2_with (first | (go_at_call 58; refine (hi _).mono ?_; rintro e w' ⟨rfl, rfl⟩))
    go_ret2
    exact ⟨rfl, by (repeat' (first | (with_reducible exact Below.refl _ _) | (with_reducible assumption) | (with_reducible refine below_drewN ?_ _) | (with_reducible refine Below.drew ?_) | (with_reducible refine Below.setCell ?_ ?_ _) | (with_reducible refine Below.alloc ?_ ?_ _) | (with_reducible refine below_after ?_ ?_ (by assumption)) | (show _ ≤ _; first | omega | (simp; done) | (simp; omega))))⟩
  · obtain ⟨m, rfl⟩ := Int.eq_ofNat_of_zero_le h0
    rw [nameM, hq, if_pos rfl, Int.toNat_natCast, ← nameTail_all]
    go_enter Tryd.func21, Tryd.ntmps21
    go_wp2_with (first | (go_at_call 58; refine (hi _).mono ?_; rintro e w' ⟨rfl, rfl⟩))
    clear hi hq
    go_loopw [0, 4, 5] (fun x s i wr => ∃ k n : Nat, k ≤ 12 ∧ x = .int .u64 n ∧ s = .string (str (nameTail m k)) ∧ i = .int .i64 k ∧ Hid (n = m / 16 ^ k) ∧ n < 18446744073709551616 ∧ Below w.heap.size w wr) (fun _ _ i _ => 12 - (intOf i).toNat)
    case atStart => exact ⟨0, m, by omega, rfl, rfl, rfl, by simp [Hid], by omega, Below.refl _ _⟩
    case round =>
      obtain ⟨k, n, hk, rfl, rfl, rfl, hn, hn2, hbel⟩ := hrel
      by_cases hlt : k < 12
      · have hsz := nameTail_length m k hk
        have hs2 : (str (nameTail m k)).size ≤ 13 := by rw [str_size]; exact hsz
        have hd : n % 16 < 16 := Nat.mod_lt _ (by decide)
        have hx := hexs_at (n % 16) hd
        simp only [hexs] at hx
        have hw1 : IntKind.u64.wrap ((n : Int) % 16 + 1) = (n : Int) % 16 + 1 := IntWalk.u64_in _ (by omega)
        have hd1 : (n : Int) % 16 + 1 ≤ 16 := by omega
        have hs1 : (str [hexDig (n % 16)]).size ≤ 1 := by rw [str_size]; simp
        generalize hD : str [hexDig (n % 16)] = D at hx hs1
        have HD := Lib.hid hD
        clear hD
        by_cases h8 : k = 8
        · subst h8
          go_wp2
          go_roundw
          case rel => exact ⟨9, n / 16, by omega, by go_num, by rw [← nameTail_eight, ← hn.out, ← str_cons, HD.out, ← str_cons]; rfl, rfl, by rw [hn.out, Nat.div_div_eq_div_mul, ← Nat.pow_succ]; rfl, by omega, hbel⟩
          case measure => simp [intOf]
        · have H8 := Lib.hid h8
          have hne : ((k : Int) == 8) = false := beq_eq_false_iff_ne.2 (by omega)
          clear h8 hsz
          generalize hT : str (nameTail m k) = T at hs2 ⊢
          have HT := Lib.hid hT
          clear hT
          have hlti : (k : Int) < 12 := by omega
          have HL := Lib.hid hlt
          have HK := Lib.hid hk
          clear hlt hk
          go_wp2
          go_roundw
          case rel => exact ⟨k + 1, n / 16, by have := HL.out; omega, by go_num, by rw [← nameTail_succ m k H8.out (by have := HL.out; omega), ← hn.out, ← str_cons, HT.out, HD.out], by go_num, by rw [hn.out, Nat.div_div_eq_div_mul, ← Nat.pow_succ]; rfl, by omega, hbel⟩
          case measure => simp [intOf]; omega
      · obtain rfl : k = 12 := by omega
        go_wp2
        go_ret2
        exact ⟨rfl, hbel⟩

end Go.Proofs.YtdklpmaeajpacaaDoor
