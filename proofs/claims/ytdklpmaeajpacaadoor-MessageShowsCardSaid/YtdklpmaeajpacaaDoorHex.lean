/-
  The number of hexadecimal digits: plain laws, and strconv.ParseUint at base 16.
-/
import Derived.Test.YtdklpmaeajpacaaDoorNam
import Derived.Lib.SlTrimSet
import Derived.Outline
import Derived.Laws.BitsAllLaws
import Derived.Laws.IdiomStrings
namespace Go.Proofs.YtdklpmaeajpacaaDoor
open Go.RowKit

/-- A hexadecimal digit in small letters. -/
def isHex (b : UInt8) : Bool := decide ((48 ≤ b.toNat ∧ b.toNat ≤ 57) ∨ (97 ≤ b.toNat ∧ b.toNat ≤ 102))
/-- Its value. -/
def hexV (b : UInt8) : Nat := if b.toNat ≤ 57 then b.toNat - 48 else b.toNat - 87
/-- The number of some digits. -/
def hexN (l : List UInt8) : Nat := l.foldl (fun a b => a * 16 + hexV b) 0

theorem hexV_lt {b : UInt8} (h : isHex b = true) : hexV b < 16 := by
  simp [isHex] at h
  unfold hexV
  split <;> omega
theorem hexN_snoc (l : List UInt8) (b : UInt8) : hexN (l ++ [b]) = hexN l * 16 + hexV b := by simp [hexN]
theorem hexN_lt (l : List UInt8) (h : l.all isHex = true) : hexN l < 16 ^ l.length := by
  refine snoc_ind (P := fun l => l.all isHex = true → hexN l < 16 ^ l.length) (fun _ => by simp [hexN]) (fun l b ih h => ?_) l h
  rw [List.all_append, Bool.and_eq_true] at h
  have h1 := ih h.1
  have h2 := hexV_lt (b := b) (by simpa using h.2)
  rw [hexN_snoc, List.length_append, List.length_singleton, Nat.pow_succ]
  omega

/-- The digits, as a set. -/
def hexSet : List UInt8 := [48, 49, 50, 51, 52, 53, 54, 55, 56, 57, 97, 98, 99, 100, 101, 102]
theorem hexSet_fin : ∀ n : Fin 256, hexSet.contains (UInt8.ofNat n.val) = isHex (UInt8.ofNat n.val) := by decide +kernel
theorem hexSet_is (b : UInt8) : hexSet.contains b = isHex b := by
  have h := hexSet_fin ⟨b.toNat, b.toNat_lt⟩
  simpa using h

theorem dropWhile_nil {p : UInt8 → Bool} (l : List UInt8) : l.dropWhile p = [] ↔ l.all p = true := by
  induction l with
  | nil => simp
  | cons a l ih =>
    rw [List.dropWhile_cons, List.all_cons]
    cases h : p a
    · simp
    · simpa using ih

theorem trim_nil (l : List UInt8) : Lib.trimS l hexSet = [] ↔ l.all isHex = true := by
  have e : (fun b => hexSet.contains b) = isHex := funext hexSet_is
  unfold Lib.trimS Lib.trimLeftS Lib.trimRightS
  rw [e, dropWhile_nil, List.all_reverse]
  constructor
  · intro h
    have h2 : l.reverse.all isHex = true := by
      rw [← List.takeWhile_append_dropWhile (p := isHex) (l := l.reverse), List.all_append, h, Bool.and_true]
      exact List.all_takeWhile
    rwa [List.all_reverse] at h2
  · intro h
    have h2 : l.reverse.all isHex = true := by rw [List.all_reverse]; exact h
    rw [(dropWhile_nil _).2 h2]
    rfl

theorem list_sizeH (s : ByteArray) : s.data.toList.length = s.size := by simp
theorem bytesRow_get (s : ByteArray) (cap k : Nat) (h : k < s.size) : (bytesRow s cap)[k]? = some (.int .u8 (s[k].toNat : Int)) := by
  have h2 : k < (s.data.map (fun b => Value.int .u8 (b.toNat : Int))).size := by simpa using h
  rw [bytesRow, Array.getElem?_append_left h2, Array.getElem?_eq_getElem h2]
  simp
  rfl

theorem or32_fin : ∀ n : Fin 256, 97 ≤ n.val → n.val ≤ 102 → n.val ||| 32 = n.val := by decide +kernel
theorem or32 (x : Nat) (h1 : 97 ≤ x) (h2 : x ≤ 102) : bits BinOp.or .u8 (x : Int) 32 = (x : Int) := by
  have h := u8_or_nat x 32 (by omega) (by decide)
  rw [or32_fin ⟨x, by omega⟩ h1 h2] at h
  exact h

set_option maxHeartbeats 4000000 in
set_option maxRecDepth 1000000 in
theorem parse16_in (s : ByteArray) (w : World) (h0 : 0 < s.size) (h15 : s.size ≤ 15) (hall : s.data.toList.all isHex = true) :
    Calls Tryd.prog 87 #[.string s, .int .i64 16, .int .i64 64] w fun e w' => e = .returned (.tuple #[.int .u64 (hexN s.data.toList : Nat), .nilIface]) ∧ Below w.heap.size w w' := by
  have he : s.toList.isEmpty = false := by
    rw [ByteArray.toList_eq]
    cases h : s.data.toList with
    | nil =>
      have h2 : s.size = 0 := by rw [← list_sizeH, h]; rfl
      omega
    | cons a t => rfl
  have hcv := fun W : World => run_bytes_of_string (P := Tryd.prog) W 9 47 5 s Tryd.underlying9 Tryd.underlying47 Tryd.underlying5
  go_enter Tryd.func87, Tryd.ntmps87
  go_wp2
  have hmv : (1152921504606846976 : Int) ≤ IntKind.u64.wrap (IntKind.u64.wrap 18446744073709551616 - 1) := by decide +kernel
  generalize IntKind.u64.wrap (IntKind.u64.wrap 18446744073709551616 - 1) = MV at hmv ⊢
  generalize IntKind.u64.wrap 18446744073709551616 = MZ
  have hw1 : Below w.heap.size w (w.alloc (.cells (bytesRow s (grownCap w s.size 0 5)) 5 ((bytesRow s (grownCap w s.size 0 5)).size, (bytesRow s (grownCap w s.size 0 5)).size + 1))).drew := by (repeat' (first | (with_reducible exact Below.refl _ _) | (with_reducible assumption) | (with_reducible refine below_drewN ?_ _) | (with_reducible refine Below.drew ?_) | (with_reducible refine Below.setCell ?_ ?_ _) | (with_reducible refine Below.alloc ?_ ?_ _) | (with_reducible refine below_after ?_ ?_ (by assumption)) | (show _ ≤ _; first | omega | (simp; done) | (simp; omega))))
  have hc : ∀ (k : Nat) (hk : k < s.size), (w.alloc (.cells (bytesRow s (grownCap w s.size 0 5)) 5 ((bytesRow s (grownCap w s.size 0 5)).size, (bytesRow s (grownCap w s.size 0 5)).size + 1))).drew.cell? ⟨w.heap.size, k, none⟩ = some (.int .u8 (s[k].toNat : Int)) := fun k hk => by
    show (w.alloc _).cell? _ = _
    rw [World.cell?_alloc_mark, bytesRow_get s _ k hk]
  generalize (w.alloc (.cells (bytesRow s (grownCap w s.size 0 5)) 5 ((bytesRow s (grownCap w s.size 0 5)).size, (bytesRow s (grownCap w s.size 0 5)).size + 1))).drew = wz at hw1 hc ⊢
  clear hcv he
  go_loop [12, 13, 15, 16, 17, 101] (fun u n _ _ _ i => ∃ k : Nat, k ≤ s.size ∧ i = .int .i64 k ∧ u = .bool false ∧ n = .int .u64 (hexN (s.data.toList.take k) : Nat)) (fun _ _ _ _ _ i => s.size - (intOf i).toNat)
  case atStart => exact ⟨0, Nat.zero_le _, rfl, rfl, rfl⟩
  case round =>
    obtain ⟨k, hk, rfl, rfl, rfl⟩ := hrel
    by_cases hlt : k < s.size
    · have hlti : (k : Int) < (s.size : Int) := by omega
      have c0 := hc k hlt
      have hts := take_snoc s k hlt
      have hx : isHex s[k] = true := List.all_eq_true.1 hall s[k] (List.getElem_mem (l := s.data.toList) (by simpa using hlt))
      have hN := hexN_lt (s.data.toList.take k) (List.all_eq_true.2 fun a ha => List.all_eq_true.1 hall a (List.mem_of_mem_take ha))
      have hl : (s.data.toList.take k).length = k := by rw [List.length_take, list_sizeH]; omega
      rw [hl] at hN
      have hN2 : hexN (s.data.toList.take k) < 72057594037927936 := by
        have h1 : 16 ^ k ≤ 16 ^ 14 := Nat.pow_le_pow_right (by decide) (by omega)
        have h2 : (16 : Nat) ^ 14 = 72057594037927936 := by decide
        omega
      have hsn := hexN_snoc (s.data.toList.take k) s[k]
      rw [← hts] at hsn
      have hv := hexV_lt hx
      simp only [isHex, decide_eq_true_eq] at hx
      have hvv : hexV s[k] = if s[k].toNat ≤ 57 then s[k].toNat - 48 else s[k].toNat - 87 := rfl
      obtain ⟨x, hxx⟩ : ∃ x, s[k].toNat = x := ⟨_, rfl⟩
      rw [hxx] at c0 hx hvv
      generalize hexV s[k] = V at hsn hv hvv
      generalize hexN (s.data.toList.take k) = N at hsn hN hN2 ⊢
      have HSN := Lib.hid hsn
      have HVV := Lib.hid hvv
      have HK := Lib.hid hlt
      have HV := Lib.hid hv
      have HN := Lib.hid hN2
      obtain ⟨X, hX⟩ : ∃ X : Int, (x : Int) = X := ⟨_, rfl⟩
      rw [hX] at c0
      have HX := Lib.hid hX
      have hk15 : (k : Int) < 15 := by omega
      have HKS := Lib.hid hlt
      have Y3 : (X == 95) = false := beq_eq_false_iff_ne.2 (by omega)
      have Y4 : ((1152921504606846976 : Int) ≤ (N : Int)) = False := eq_false (by omega)
      obtain ⟨M, hM⟩ : ∃ M : Int, (N : Int) * 16 = M := ⟨_, rfl⟩
      obtain ⟨D, hD⟩ : ∃ D : Int, (V : Int) = D := ⟨_, rfl⟩
      obtain ⟨R, hR⟩ : ∃ R : Int, M + D = R := ⟨_, rfl⟩
      have W1 : IntKind.u64.wrap ((N : Int) * 16) = M := by rw [IntWalk.u64_in _ (by omega)]; exact hM
      have W2 : IntKind.u64.wrap (M + IntKind.u64.wrap D) = R := by rw [IntWalk.u64_in D (by omega), IntWalk.u64_in _ (by omega)]; exact hR
      have W3 : IntKind.u64.wrap (M + D) = R := by rw [IntWalk.u64_in _ (by omega)]; exact hR
      have Y5 : (R < M) = False := eq_false (by omega)
      have Y6 : (MV < R) = False := eq_false (by omega)
      have Y7 : ((16 : Int) ≤ D) = False := eq_false (by omega)
      have HR : Hid (R = ((N * 16 + V : Nat) : Int)) := Lib.hid (by omega)
      rcases hx with ⟨x1, x2⟩ | ⟨x1, x2⟩
      · have Z1 : ((48 : Int) ≤ X) = True := eq_true (by omega)
        have Z2 : (X ≤ 57) = True := eq_true (by omega)
        have Z3 : IntKind.u8.wrap (X - 48) = D := by rw [IntWalk.u8_in _ (by omega), ← hD]; rw [if_pos x2] at hvv; omega
        clear hc hsn hvv hall hN hts hl hxx hX x1 x2 hlt h0 h15 hN2 hv hk hmv hM hD hR
        go_wp2
        go_round
        case rel => exact ⟨k + 1, HKS.out, by go_num, rfl, by rw [HR.out, HSN.out]⟩
        case measure => have := HKS.out; simp [intOf]; omega
      · have hor := or32 x x1 x2
        rw [hX] at hor
        have Z1 : ((48 : Int) ≤ X) = True := eq_true (by omega)
        have Z2 : (X ≤ 57) = False := eq_false (by omega)
        have Z3 : ((97 : Int) ≤ X) = True := eq_true (by omega)
        have Z4 : (X ≤ 122) = True := eq_true (by omega)
        have Z5 : (X - 97 + 10) % 256 = D := by rw [if_neg (by omega)] at hvv; omega
        clear hc hsn hvv hall hN hts hl hxx hX x1 x2 hlt h0 h15 hN2 hv hk hmv hM hD hR
        go_wp2
        go_round
        case rel => exact ⟨k + 1, HKS.out, by go_num, rfl, by rw [HR.out, HSN.out]⟩
        case measure => have := HKS.out; simp [intOf]; omega
    · obtain rfl : k = s.size := by omega
      rw [List.take_of_length_le (by simp)]
      go_wp2
      go_ret2
      exact ⟨rfl, hw1⟩

end Go.Proofs.YtdklpmaeajpacaaDoor
