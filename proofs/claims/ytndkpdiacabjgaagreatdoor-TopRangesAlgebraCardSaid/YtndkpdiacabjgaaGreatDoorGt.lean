/-
  Texts of ranges: plain definitions and laws, no program in sight.
-/
import Derived.Test.YtndkpdiacabjgaaGreatDoorV5
import Derived.Test.YtndkpdiacabjgaaGreatDoorGa
import Derived.Lib.Join
namespace Go.Proofs.YtndkpdiacabjgaaGreatDoor
open Go.Lib

/-- The text of a range. -/
def fmtG (r : Int × Int) : List UInt8 := decDigits r.1.toNat ++ if r.1 < r.2 then 32 :: 116 :: 104 :: 114 :: 117 :: 32 :: decDigits r.2.toNat else []
/-- The texts of ranges, each behind a sign. -/
def moreG : List (Bool × Int × Int) → List UInt8
  | [] => []
  | (b, r) :: ts => 32 :: (if b then 43 else 45) :: 32 :: (fmtG r ++ moreG ts)
def termsG (b : Bool) (l : List (Int × Int)) : List (Bool × Int × Int) := l.map fun r => (b, r)
/-- The text of a list. -/
def textG (l : List (Int × Int)) : List UInt8 := join (l.map fmtG) [32, 43, 32]
/-- What is put in, or removed. -/
def runG : List (Bool × Int × Int) → (Nat → Bool) → (Nat → Bool)
  | [], M => M
  | (b, r) :: ts, M => runG ts (putG b M r)

theorem moreG_append (a b : List (Bool × Int × Int)) : moreG (a ++ b) = moreG a ++ moreG b := by
  induction a with
  | nil => rfl
  | cons x a ih => obtain ⟨s, r⟩ := x; simp [moreG, ih]
theorem runG_append : ∀ (a b : List (Bool × Int × Int)) (M : Nat → Bool), runG (a ++ b) M = runG b (runG a M)
  | [], _, _ => rfl
  | (s, r) :: a, b, M => by rw [List.cons_append, runG, runG, runG_append a b]
theorem runG_terms (b : Bool) : ∀ (l : List (Int × Int)) (M : Nat → Bool), runG (termsG b l) M = putsG b l M
  | [], _ => rfl
  | r :: l, M => by
    show runG (termsG b l) (putG b M r) = _
    rw [runG_terms b l, putsG, putsG, List.foldl_cons]
theorem joinTail_more (l : List (Int × Int)) : joinTail [32, 43, 32] (l.map fmtG) = moreG (termsG true l) := by
  induction l with
  | nil => rfl
  | cons r l ih =>
    show _ = moreG ((true, r) :: termsG true l)
    rw [moreG, ← ih]
    simp [joinTail]
theorem textG_cons (r : Int × Int) (l : List (Int × Int)) : textG (r :: l) = fmtG r ++ moreG (termsG true l) := by
  rw [textG, List.map_cons, join_cons, joinTail_more]

theorem dec_head {n : Nat} : ∃ d l, decDigits n = d :: l ∧ isDig d = true := by
  have h := decDigits_all n
  have h2 := decDigits_ne n
  match he : decDigits n with
  | [] => exact absurd he h2
  | d :: l => rw [he] at h; simp at h; exact ⟨d, l, rfl, h.1⟩
theorem dec_len {n : Nat} (h : n ≤ 999) : (decDigits n).length ≤ 3 := by
  rw [decDigits_length]
  rcases Nat.lt_or_ge n 10 with h1 | h1
  · rw [nDigits_small h1]; omega
  · rw [nDigits_big (by omega)]
    rcases Nat.lt_or_ge (n / 10) 10 with h2 | h2
    · rw [nDigits_small h2]; omega
    · rw [nDigits_big (by omega), nDigits_small (by omega)]; omega
theorem fmtG_len {r : Int × Int} (h : rightG r = true) : (fmtG r).length ≤ 12 := by
  have hr := rightG_iff.1 h
  have h1 := dec_len (n := r.1.toNat) (by omega)
  have h2 := dec_len (n := r.2.toNat) (by omega)
  rw [fmtG, List.length_append]
  split <;> simp <;> omega
theorem moreG_len : ∀ (ts : List (Bool × Int × Int)), (∀ t ∈ ts, rightG t.2 = true) → (moreG ts).length ≤ 15 * ts.length
  | [], _ => by simp [moreG]
  | (b, r) :: ts, h => by
    have h1 : (fmtG r).length ≤ 12 := fmtG_len (h (b, r) (by simp))
    have h2 := moreG_len ts (fun t ht => h t (by simp [ht]))
    simp only [moreG, List.length_cons, List.length_append]
    omega

/-- The value of the digits so far stays small. -/
theorem dval_part (p q : List UInt8) : dval p ≤ dval (p ++ q) := by
  rw [dval_append]
  have : 1 ≤ 10 ^ q.length := Nat.one_le_pow _ _ (by decide)
  have := Nat.mul_le_mul_left (dval p) this
  omega

/-- How many blanks are ahead. -/
def blanksG (l : List UInt8) : Nat := (l.takeWhile (· == 32)).length
theorem blanksG_cons (l : List UInt8) : blanksG (32 :: l) = blanksG l + 1 := by simp [blanksG]
theorem blanksG_other {b : UInt8} (l : List UInt8) (h : b ≠ 32) : blanksG (b :: l) = 0 := by simp [blanksG, h]
theorem blanksG_nil : blanksG [] = 0 := rfl
theorem isDig_ne {d : UInt8} (h : isDig d = true) : d ≠ 32 := by
  intro e; subst e; exact absurd h (by decide)
theorem fmtG_head (r : Int × Int) : ∃ d l, fmtG r = d :: l ∧ isDig d = true := by
  obtain ⟨d, l, h, hd⟩ := dec_head (n := r.1.toNat)
  exact ⟨d, _, by rw [fmtG, h]; rfl, hd⟩

theorem at_byte {s : ByteArray} {k : Nat} {d : UInt8} {l : List UInt8} (h : s.data.toList.drop k = d :: l) : ∃ hk : k < s.size, s[k] = d ∧ s.data.toList.drop (k + 1) = l := by
  have hk : k < s.data.toList.length := by
    apply Nat.lt_of_not_le
    intro hn
    rw [List.drop_eq_nil_of_le hn] at h
    cases h
  have hs : k < s.size := by simpa using hk
  rw [List.drop_eq_getElem_cons hk] at h
  injection h with h1 h2
  exact ⟨hs, h1, h2⟩
theorem at_end {s : ByteArray} {k : Nat} (h : s.data.toList.drop k = []) : s.size ≤ k := by
  have := List.drop_eq_nil_iff.1 h
  simpa using this
theorem drop_more {s : ByteArray} {k : Nat} {p q : List UInt8} (h : s.data.toList.drop k = p ++ q) : s.data.toList.drop (k + p.length) = q := by
  rw [← List.drop_drop, h, List.drop_left]
theorem drop_len {s : ByteArray} {k : Nat} {p q : List UInt8} (h : s.data.toList.drop k = p ++ q) (hp : p ≠ []) : k + p.length ≤ s.size := by
  have h1 : (s.data.toList.drop k).length = p.length + q.length := by rw [h, List.length_append]
  rw [List.length_drop] at h1
  have h2 : s.data.toList.length = s.size := by simp
  have h3 : 0 < p.length := List.length_pos_iff.2 hp
  omega
theorem isDig_int {d : UInt8} (h : isDig d = true) : (48 : Int) ≤ (d.toNat : Int) ∧ (d.toNat : Int) ≤ 57 := by
  simp only [isDig, Bool.and_eq_true, decide_eq_true_eq] at h
  omega
theorem isDig_not {d : UInt8} (h : isDig d = false) : (d.toNat : Int) < 48 ∨ 57 < (d.toNat : Int) := by
  rw [Bool.eq_false_iff, ne_eq, isDig, Bool.and_eq_true, decide_eq_true_eq, decide_eq_true_eq] at h
  omega
/-- One digit more. -/
theorem dec_step {n : Nat} {p q : List UInt8} {d : UInt8} (h : decDigits n = p ++ d :: q) (hn : n ≤ 999) : isDig d = true ∧ 10 * dval p + (d.toNat - 48) = dval (p ++ [d]) ∧ dval (p ++ [d]) ≤ 999 ∧ dval p ≤ 999 := by
  have h1 := decDigits_all n
  rw [h] at h1
  simp only [List.all_append, List.all_cons, Bool.and_eq_true] at h1
  have h2 := dval_decDigits n
  rw [h, show p ++ d :: q = (p ++ [d]) ++ q by simp] at h2
  have h3 := dval_part (p ++ [d]) q
  have h4 := dval_part p [d]
  exact ⟨h1.2.1, (dval_snoc d p).symm, by omega, by omega⟩
end Go.Proofs.YtndkpdiacabjgaaGreatDoor
