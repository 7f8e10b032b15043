/-
  Numbers of cues as lists of bytes: plain definitions and laws, no program in sight.
-/
import Derived.WalkKit
import Derived.Lib.AtoiAll
import Derived.Lib.ItoaNum
import Derived.Lib.TrimByte
import Derived.Lib.IndexMore
namespace Go.Proofs.YtndkpdiacabjgaaGreatDoor
open Go.Lib

/-- A byte is a digit. -/
def isDig (b : UInt8) : Bool := decide (48 ≤ b.toNat) && decide (b.toNat ≤ 57)
/-- A text consists of digits, at least one. -/
def digs (l : List UInt8) : Bool := l.all isDig && !l.isEmpty
/-- The value of digits. -/
def dval (l : List UInt8) : Nat := l.foldl (fun n b => 10 * n + (b.toNat - 48)) 0
/-- What is before the first point, behind it, and whether there is one. -/
def wholeOf : List UInt8 → List UInt8
  | [] => []
  | b :: l => if b = 46 then [] else b :: wholeOf l
def restOf : List UInt8 → List UInt8
  | [] => []
  | b :: l => if b = 46 then l else restOf l
def hasPt : List UInt8 → Bool
  | [] => false
  | b :: l => if b = 46 then true else hasPt l

/-- The three forms. -/
def formE (w r : List UInt8) (p : Bool) : Bool :=
  digs w && ((!p || (digs r && r.getLast? != some 48)) && (w.length == 1 || w.head? != some 48))
/-- The number of the error of a text. -/
def chk5 (l : List UInt8) : Int :=
  if formE (wholeOf l) (restOf l) (hasPt l) = false then 3
  else if l = [48] ∨ 4 < (wholeOf l).length ∨ 3 < (restOf l).length then 2 else 0
/-- The thousandths of a right number. -/
def val5 (l : List UInt8) : Nat := dval (wholeOf l ++ (restOf l ++ [48, 48, 48]).take 3)
def thou5 (l : List UInt8) : Int × Int := if chk5 l = 0 then ((val5 l : Int), 0) else (0, chk5 l)
/-- Three digits. -/
def three (m : Nat) : List UInt8 := [UInt8.ofNat (48 + m / 100), UInt8.ofNat (48 + m / 10 % 10), UInt8.ofNat (48 + m % 10)]
/-- The number with right thousandths. -/
def named (n : Nat) : List UInt8 := decDigits (n / 1000) ++ (if n % 1000 = 0 then [] else 46 :: trimRightB (three (n % 1000)) 48)
def of5 (n : Int) : List UInt8 × Int := if 1 ≤ n ∧ n ≤ 9999999 then (named n.toNat, 0) else ([], 2)
/-- The order of two numbers. -/
def ord5 (x y : Int) : Int := if x < y then -1 else if y < x then 1 else 0
def cmp5 (a b : List UInt8) : Int × Int :=
  if chk5 a = 0 then (if chk5 b = 0 then (ord5 (val5 a) (val5 b), 0) else (0, chk5 b)) else (0, chk5 a)
/-- The next multiple of a unit. -/
def nextM (x u : Int) : Int := (x / u + 1) * u
def bet5 (a b : List UInt8) : List UInt8 × Int :=
  if chk5 a = 0 then
    if chk5 b = 0 then
      if (val5 b : Int) ≤ val5 a then ([], 9)
      else if nextM (val5 a) 1000 < val5 b then of5 (nextM (val5 a) 1000)
      else if nextM (val5 a) 100 < val5 b then of5 (nextM (val5 a) 100)
      else if nextM (val5 a) 10 < val5 b then of5 (nextM (val5 a) 10)
      else if nextM (val5 a) 1 < val5 b then of5 (nextM (val5 a) 1)
      else ([], 12)
    else ([], chk5 b)
  else ([], chk5 a)
def aft5 (a : List UInt8) : List UInt8 × Int := if chk5 a = 0 then of5 (nextM (val5 a) 1000) else ([], chk5 a)
def asc5 (last : Int) : List ByteArray → Int
  | [] => 0
  | s :: l => if chk5 s.data.toList = 0 then (if (val5 s.data.toList : Int) ≤ last then 9 else asc5 (val5 s.data.toList) l) else chk5 s.data.toList

/-! ### The cut at the point -/
theorem cut_pt_idx : ∀ l : List UInt8, (hasPt l = true ∧ index l [46] = (wholeOf l).length ∧ l = wholeOf l ++ 46 :: restOf l) ∨ (hasPt l = false ∧ index l [46] = -1 ∧ wholeOf l = l ∧ restOf l = [])
  | [] => Or.inr ⟨rfl, rfl, rfl, rfl⟩
  | b :: l => by
    by_cases hb : b = 46
    · subst hb
      exact Or.inl ⟨rfl, by unfold index; simp [wholeOf], by simp [wholeOf, restOf]⟩
    · have hp : ([46] : List UInt8).isPrefixOf (b :: l) = false := by
        show ((46 : UInt8) == b && List.isPrefixOf [] l) = false
        rw [beq_eq_false_iff_ne.2 (fun h => hb h.symm), Bool.false_and]
      rcases cut_pt_idx l with ⟨h1, h2, h3⟩ | ⟨h1, h2, h3, h4⟩
      · refine Or.inl ⟨by simp [hasPt, hb, h1], ?_, ?_⟩
        · unfold index
          rw [hp, h2]
          have : (((wholeOf l).length : Int) == -1) = false := by rw [beq_eq_false_iff_ne]; omega
          simp [this, wholeOf, hb]
        · simp only [wholeOf, restOf, hb, if_false]
          rw [List.cons_append, ← h3]
      · refine Or.inr ⟨by simp [hasPt, hb, h1], ?_, by simp [wholeOf, hb, h3], by simp [restOf, hb, h4]⟩
        unfold index
        rw [hp, h2]
        simp

theorem cut_pt (l : List UInt8) : cut l [46] = (wholeOf l, restOf l, hasPt l) := by
  rcases cut_pt_idx l with ⟨h1, h2, h3⟩ | ⟨h1, h2, h3, h4⟩
  · unfold cut
    rw [h2, h1, if_pos (by omega)]
    have e : ((wholeOf l).length : Int).toNat = (wholeOf l).length := by simp
    rw [e]
    generalize wholeOf l = w at h3 ⊢
    generalize restOf l = r at h3 ⊢
    subst h3
    simp
  · unfold cut
    rw [h2, h1, h3, h4]
    simp

/-! ### The value of digits -/
theorem dval_nil : dval [] = 0 := rfl
theorem foldl_dval (l : List UInt8) (n : Nat) : l.foldl (fun n b => 10 * n + (b.toNat - 48)) n = n * 10 ^ l.length + dval l := by
  induction l generalizing n with
  | nil => simp [dval]
  | cons b l ih =>
    unfold dval
    rw [List.foldl_cons, List.foldl_cons, ih, ih (10 * 0 + _), List.length_cons, Nat.pow_succ]
    grind
theorem dval_cons (b : UInt8) (l : List UInt8) : dval (b :: l) = (b.toNat - 48) * 10 ^ l.length + dval l := by
  rw [dval, List.foldl_cons, foldl_dval]
  simp
theorem dval_snoc (b : UInt8) (l : List UInt8) : dval (l ++ [b]) = 10 * dval l + (b.toNat - 48) := by simp [dval]
theorem dval_append (a b : List UInt8) : dval (a ++ b) = dval a * 10 ^ b.length + dval b := by
  rw [dval, List.foldl_append, foldl_dval]
  rfl
theorem isDig_le {b : UInt8} (h : isDig b = true) : 48 ≤ b.toNat ∧ b.toNat ≤ 57 := by simpa [isDig] using h
theorem dval_lt : ∀ l : List UInt8, l.all isDig = true → dval l < 10 ^ l.length
  | [], _ => by simp [dval]
  | b :: l, h => by
    rw [List.all_cons, Bool.and_eq_true] at h
    have := isDig_le h.1
    have := dval_lt l h.2
    rw [dval_cons, List.length_cons, Nat.pow_succ]
    have h9 : (b.toNat - 48) * 10 ^ l.length ≤ 9 * 10 ^ l.length := Nat.mul_le_mul_right _ (by omega)
    omega

theorem parse_dig : ∀ (l : List UInt8) (acc c : Nat), l.all isDig = true → l.length + c ≤ 18 → acc < 10 ^ c → parseUint10 acc l = .ok (acc * 10 ^ l.length + dval l)
  | [], acc, c, _, _, _ => by simp [parseUint10, dval]
  | b :: l, acc, c, h, hl, ha => by
    rw [List.all_cons, Bool.and_eq_true] at h
    have hb := isDig_le h.1
    rw [List.length_cons] at hl
    have h18 : 10 ^ (c + 1) ≤ 10 ^ 18 := Nat.pow_le_pow_right (by decide) (by omega)
    rw [show (10 : Nat) ^ 18 = 1000000000000000000 from by decide] at h18
    rw [Nat.pow_succ] at h18
    rw [parseUint10, if_pos hb, if_neg (by omega), if_neg (by omega), parse_dig l _ (c + 1) h.2 (by omega) (by rw [Nat.pow_succ]; omega), dval_cons, List.length_cons, Nat.pow_succ]
    congr 1
    grind

theorem atoi_dig (l : List UInt8) (h : digs l = true) (hl : l.length ≤ 18) : atoiAll l = .ok (dval l : Int) := by
  unfold digs at h
  rw [Bool.and_eq_true] at h
  cases l with
  | nil => simp at h
  | cons b l =>
    have hb := h.1
    rw [List.all_cons, Bool.and_eq_true] at hb
    have hb1 := isDig_le hb.1
    have hp := parse_dig (b :: l) 0 0 h.1 (by simpa using hl) (by simp)
    rw [Nat.zero_mul, Nat.zero_add] at hp
    have hlt := dval_lt (b :: l) h.1
    have h18 : 10 ^ (b :: l).length ≤ 10 ^ 18 := Nat.pow_le_pow_right (by decide) hl
    rw [show (10 : Nat) ^ 18 = 1000000000000000000 from by decide] at h18
    simp only [atoiAll]
    rw [if_neg (by omega), parseMag, if_neg (by simp), hp]
    simp only
    rw [if_neg (by omega), if_neg (by omega), if_neg (by omega)]

/-! ### Digits of numbers -/
/-- The last `k` digits of a number. -/
def decN (n : Nat) : Nat → List UInt8
  | 0 => []
  | k + 1 => decN (n / 10) k ++ [UInt8.ofNat (48 + n % 10)]
theorem decN_length (n k : Nat) : (decN n k).length = k := by
  induction k generalizing n with
  | zero => rfl
  | succ k ih => simp [decN, ih]
theorem decN_cons (n k : Nat) : decN n (k + 1) = UInt8.ofNat (48 + n / 10 ^ k % 10) :: decN n k := by
  induction k generalizing n with
  | zero => simp [decN]
  | succ k ih =>
    rw [decN, ih, decN, Nat.div_div_eq_div_mul, Nat.pow_succ, Nat.mul_comm 10 (10 ^ k)]
    rfl
theorem digit_ok (m : Nat) (h : m < 10) : isDig (UInt8.ofNat (48 + m)) = true ∧ (UInt8.ofNat (48 + m)).toNat = 48 + m := by
  have e : (UInt8.ofNat (48 + m)).toNat = 48 + m := by simp; omega
  exact ⟨by simp [isDig]; omega, e⟩
theorem decN_digs (n k : Nat) : (decN n k).all isDig = true := by
  induction k generalizing n with
  | zero => rfl
  | succ k ih => rw [decN, List.all_append, ih, List.all_cons, (digit_ok (n % 10) (by omega)).1]; rfl
theorem dval_decN (n k : Nat) : dval (decN n k) = n % 10 ^ k := by
  induction k generalizing n with
  | zero => simp [decN, dval, Nat.mod_one]
  | succ k ih =>
    rw [decN, dval_snoc, ih, (digit_ok (n % 10) (by omega)).2, Nat.pow_succ, Nat.mul_comm (10 ^ k) 10, Nat.mod_mul]
    omega
theorem decDigits_decN (k n : Nat) (h0 : n / 10 ^ (k + 1) = 0) (h1 : k = 0 ∨ 0 < n / 10 ^ k) : decDigits n = decN n (k + 1) := by
  induction k generalizing n with
  | zero =>
    have : n < 10 := by
      rw [Nat.pow_one] at h0
      omega
    rw [decDigits, dif_pos this]
    simp [decN, Nat.mod_eq_of_lt this]
  | succ k ih =>
    have h2 : ¬ n < 10 := fun h => by
      rcases h1 with h1 | h1
      · omega
      · rw [Nat.div_eq_of_lt (Nat.lt_of_lt_of_le h (by rw [Nat.pow_succ]; have := Nat.one_le_pow k 10 (by decide); omega))] at h1
        omega
    rw [decDigits, dif_neg h2, decN, ih (n / 10)]
    · rw [Nat.div_div_eq_div_mul, Nat.mul_comm, ← Nat.pow_succ]; exact h0
    · rcases h1 with h1 | h1
      · omega
      · by_cases hk : k = 0
        · exact Or.inl hk
        · refine Or.inr ?_
          rw [Nat.div_div_eq_div_mul, Nat.mul_comm, ← Nat.pow_succ]; exact h1
theorem dec_exists (n : Nat) : ∃ k, n / 10 ^ (k + 1) = 0 ∧ (k = 0 ∨ 0 < n / 10 ^ k) := by
  induction n using Nat.strongRecOn with
  | ind n ih =>
    by_cases h : n < 10
    · exact ⟨0, by simp; omega, Or.inl rfl⟩
    · obtain ⟨k, h1, h2⟩ := ih (n / 10) (by omega)
      rw [Nat.div_div_eq_div_mul, Nat.mul_comm, ← Nat.pow_succ] at h1
      rw [Nat.div_div_eq_div_mul, Nat.mul_comm, ← Nat.pow_succ] at h2
      refine ⟨k + 1, h1, Or.inr ?_⟩
      rcases h2 with h2 | h2
      · subst h2
        simp
        omega
      · exact h2
theorem decDigits_all (n : Nat) : (decDigits n).all isDig = true := by
  obtain ⟨k, h1, h2⟩ := dec_exists n
  rw [decDigits_decN k n h1 h2]
  exact decN_digs _ _
theorem decDigits_ne (n : Nat) : decDigits n ≠ [] := by
  obtain ⟨k, h1, h2⟩ := dec_exists n
  rw [decDigits_decN k n h1 h2]
  intro h
  have := congrArg List.length h
  rw [decN_length] at this
  simp at this
theorem dval_decDigits (n : Nat) : dval (decDigits n) = n := by
  obtain ⟨k, h1, h2⟩ := dec_exists n
  rw [decDigits_decN k n h1 h2, dval_decN]
  refine Nat.mod_eq_of_lt ?_
  have hp : 0 < 10 ^ (k + 1) := Nat.pow_pos (by decide)
  exact (Nat.div_eq_zero_iff_lt hp).1 h1
theorem decDigits_len (n : Nat) (h : n ≤ 9999) : (decDigits n).length ≤ 4 := by
  obtain ⟨k, h1, h2⟩ := dec_exists n
  rw [decDigits_decN k n h1 h2, decN_length]
  rcases h2 with h2 | h2
  · omega
  · have : k < 4 := by
      refine Nat.lt_of_not_le fun h4 => ?_
      have : 10 ^ 4 ≤ 10 ^ k := Nat.pow_le_pow_right (by decide) h4
      have e : (10 : Nat) ^ 4 = 10000 := by decide
      rw [Nat.div_eq_of_lt (by omega)] at h2
      omega
    omega
theorem decDigits_head (n : Nat) : ((decDigits n).length == 1 || (decDigits n).head? != some 48) = true := by
  obtain ⟨k, h1, h2⟩ := dec_exists n
  rw [decDigits_decN k n h1 h2, decN_length]
  rcases h2 with h2 | h2
  · subst h2; rfl
  · rw [decN_cons]
    have hk : n / 10 ^ k < 10 := by
      rw [Nat.pow_succ, ← Nat.div_div_eq_div_mul] at h1
      omega
    simp only [List.head?_cons, Bool.or_eq_true]
    refine Or.inr ?_
    rw [bne_iff_ne]
    intro h
    injection h with h
    have := congrArg UInt8.toNat h
    rw [(digit_ok _ (Nat.mod_lt _ (by decide))).2, Nat.mod_eq_of_lt hk, show (48 : UInt8).toNat = 48 from rfl] at this
    omega
theorem three_decN (m : Nat) (h : m < 1000) : three m = decN m 3 := by
  simp only [decN, three, List.nil_append, List.cons_append]
  rw [show m / 10 / 10 % 10 = m / 100 from by omega]
theorem dec1000 (m : Nat) (h : m < 1000) : decDigits (1000 + m) = 49 :: three m := by
  rw [decDigits_decN 3 _ (Nat.div_eq_of_lt (by omega)) (Or.inr (Nat.div_pos (by omega) (by decide))), decN_cons, three_decN m h]
  have e : (1000 + m) / 10 ^ 3 % 10 = 1 := by omega
  rw [e]
  have e2 : decN (1000 + m) 3 = decN m 3 := by
    simp only [decN, List.nil_append, List.cons_append]
    rw [show (1000 + m) / 10 / 10 % 10 = m / 10 / 10 % 10 from by omega, show (1000 + m) / 10 % 10 = m / 10 % 10 from by omega, show (1000 + m) % 10 = m % 10 from by omega]
  rw [e2]
  rfl

/-! ### The digits behind the point -/
/-- How many decimals thousandths have. -/
def decs (m : Nat) : Nat := if m % 10 ≠ 0 then 3 else if m % 100 ≠ 0 then 2 else if m % 1000 ≠ 0 then 1 else 0
theorem digit_ne (m : Nat) (h : m < 10) : UInt8.ofNat (48 + m) = 48 ↔ m = 0 := by
  constructor
  · intro e
    have := congrArg UInt8.toNat e
    rw [(digit_ok m h).2] at this
    simp at this
    omega
  · rintro rfl; rfl
theorem trim_three (m : Nat) (h : m < 1000) : trimRightB (three m) 48 = (three m).take (decs m) := by
  have a := digit_ne (m / 100) (by omega)
  have b := digit_ne (m / 10 % 10) (by omega)
  have c := digit_ne (m % 10) (by omega)
  unfold trimRightB three decs
  simp only [List.reverse_cons, List.reverse_nil, List.nil_append, List.cons_append, List.dropWhile_cons, beq_iff_eq, a, b, c, List.dropWhile_nil]
  by_cases h1 : m % 10 = 0
  · by_cases h2 : m / 10 % 10 = 0
    · by_cases h3 : m / 100 = 0
      · have : m = 0 := by omega
        subst this
        rfl
      · rw [if_neg (by omega : ¬ m % 10 ≠ 0), if_neg (by omega : ¬ m % 100 ≠ 0), if_pos (by omega : m % 1000 ≠ 0)]
        simp [h1, h2, h3]
    · rw [if_neg (by omega : ¬ m % 10 ≠ 0), if_pos (by omega : m % 100 ≠ 0)]
      simp [h1, h2]
  · rw [if_pos (by omega : m % 10 ≠ 0)]
    simp [h1]
theorem trim_len (m : Nat) (h : m < 1000) : (trimRightB (three m) 48).length = decs m := by
  rw [trim_three m h]
  simp [three, decs]
  repeat' split
  all_goals omega
theorem three_digs (m : Nat) (h : m < 1000) : (three m).all isDig = true := by rw [three_decN m h]; exact decN_digs _ _
theorem all_take {p : UInt8 → Bool} : ∀ (l : List UInt8) (n : Nat), l.all p = true → (l.take n).all p = true := fun l n h => by
  rw [List.all_eq_true] at h ⊢
  exact fun x hx => h x (List.mem_of_mem_take hx)
theorem trim_digs (m : Nat) (h : m < 1000) : (trimRightB (three m) 48).all isDig = true := by
  rw [trim_three m h]
  exact all_take _ _ (three_digs m h)
theorem trim_ne (m : Nat) (h : m < 1000) (h0 : m ≠ 0) : trimRightB (three m) 48 ≠ [] := by
  intro e
  have := congrArg List.length e
  rw [trim_len m h] at this
  simp [decs] at this
  repeat' split at this
  all_goals omega
theorem trim_zero : trimRightB (three 0) 48 = [] := by rw [trim_three 0 (by decide)]; rfl
theorem trim_last (m : Nat) (h : m < 1000) : (trimRightB (three m) 48).getLast? ≠ some 48 := by
  have a := digit_ne (m / 100) (by omega)
  have b := digit_ne (m / 10 % 10) (by omega)
  have c := digit_ne (m % 10) (by omega)
  rw [trim_three m h]
  unfold decs three
  split
  · rename_i h1
    simp only [List.take, List.getLast?, ne_eq, Option.some.injEq]
    exact fun e => h1 (c.1 e)
  · split
    · rename_i h1 h2
      simp only [List.take, List.getLast?, ne_eq, Option.some.injEq]
      exact fun e => by
        have := b.1 e
        omega
    · split
      · rename_i h1 h2 h3
        simp only [List.take, List.getLast?, ne_eq, Option.some.injEq]
        exact fun e => by
          have := a.1 e
          omega
      · simp
theorem trim_pad (m : Nat) (h : m < 1000) : (trimRightB (three m) 48 ++ [48, 48, 48]).take 3 = three m := by
  have a := digit_ne (m / 100) (by omega)
  have b := digit_ne (m / 10 % 10) (by omega)
  have c := digit_ne (m % 10) (by omega)
  rw [trim_three m h]
  unfold decs three
  by_cases h1 : m % 10 = 0
  · have c' := c.2 h1
    by_cases h2 : m / 10 % 10 = 0
    · have b' := b.2 h2
      by_cases h3 : m / 100 = 0
      · have a' := a.2 h3
        rw [if_neg (by omega : ¬ m % 10 ≠ 0), if_neg (by omega : ¬ m % 100 ≠ 0), if_neg (by omega : ¬ m % 1000 ≠ 0), a', b', c']
        rfl
      · rw [if_neg (by omega : ¬ m % 10 ≠ 0), if_neg (by omega : ¬ m % 100 ≠ 0), if_pos (by omega : m % 1000 ≠ 0), b', c']
        rfl
    · rw [if_neg (by omega : ¬ m % 10 ≠ 0), if_pos (by omega : m % 100 ≠ 0), c']
      rfl
  · rw [if_pos (by omega : m % 10 ≠ 0)]
    rfl

/-! ### What is named is a number, and has these thousandths -/
theorem no_pt : ∀ l : List UInt8, l.all isDig = true → wholeOf l = l ∧ restOf l = [] ∧ hasPt l = false
  | [], _ => ⟨rfl, rfl, rfl⟩
  | b :: l, h => by
    rw [List.all_cons, Bool.and_eq_true] at h
    have hb : b ≠ 46 := by
      rintro rfl
      exact absurd h.1 (by decide)
    obtain ⟨h1, h2, h3⟩ := no_pt l h.2
    simp [wholeOf, restOf, hasPt, hb, h1, h2, h3]
theorem with_pt : ∀ (l r : List UInt8), l.all isDig = true → wholeOf (l ++ 46 :: r) = l ∧ restOf (l ++ 46 :: r) = r ∧ hasPt (l ++ 46 :: r) = true
  | [], _, _ => ⟨rfl, rfl, rfl⟩
  | b :: l, r, h => by
    rw [List.all_cons, Bool.and_eq_true] at h
    have hb : b ≠ 46 := by
      rintro rfl
      exact absurd h.1 (by decide)
    obtain ⟨h1, h2, h3⟩ := with_pt l r h.2
    simp [wholeOf, restOf, hasPt, hb, h1, h2, h3]
theorem named_parts (n : Nat) : wholeOf (named n) = decDigits (n / 1000) ∧ restOf (named n) = trimRightB (three (n % 1000)) 48 ∧ hasPt (named n) = decide (n % 1000 ≠ 0) := by
  unfold named
  by_cases h : n % 1000 = 0
  · rw [if_pos h, h, List.append_nil, trim_zero]
    simpa using no_pt _ (decDigits_all (n / 1000))
  · rw [if_neg h]
    simpa [h] using with_pt _ (trimRightB (three (n % 1000)) 48) (decDigits_all (n / 1000))
theorem digs_of {l : List UInt8} (h : l.all isDig = true) (h0 : l ≠ []) : digs l = true := by
  unfold digs
  rw [h]
  cases l with
  | nil => exact absurd rfl h0
  | cons b l => rfl
theorem val_named (n : Nat) : val5 (named n) = n := by
  obtain ⟨h1, h2, -⟩ := named_parts n
  unfold val5
  rw [h1, h2, trim_pad _ (by omega), dval_append, dval_decDigits, three_decN _ (by omega), decN_length, dval_decN]
  omega
theorem chk_named (n : Nat) (h1 : 1 ≤ n) (h2 : n ≤ 9999999) : chk5 (named n) = 0 := by
  obtain ⟨e1, e2, e3⟩ := named_parts n
  have hf : formE (wholeOf (named n)) (restOf (named n)) (hasPt (named n)) = true := by
    unfold formE
    rw [e1, e2, e3, digs_of (decDigits_all _) (decDigits_ne _), decDigits_head]
    by_cases h : n % 1000 = 0
    · simp [h]
    · rw [digs_of (trim_digs _ (by omega)) (trim_ne _ (by omega) h)]
      have := trim_last (n % 1000) (by omega)
      simp [this]
  unfold chk5
  rw [hf, if_neg (by simp), if_neg]
  rintro (h | h | h)
  · have := val_named n
    rw [h] at this
    have e : val5 [48] = 0 := by decide
    omega
  · rw [e1] at h
    have := decDigits_len (n / 1000) (by omega)
    omega
  · rw [e2, trim_len _ (by omega)] at h
    simp only [decs] at h
    repeat' split at h
    all_goals omega

/-- What a right number is made of. -/
theorem chk_ok {l : List UInt8} (h : chk5 l = 0) : digs (wholeOf l) = true ∧ (wholeOf l).length ≤ 4 ∧ (restOf l).all isDig = true ∧ (restOf l).length ≤ 3 := by
  unfold chk5 formE at h
  split at h
  · exact absurd h (by decide)
  · split at h
    · exact absurd h (by decide)
    · rename_i h1 h2
      simp only [Bool.not_eq_false, Bool.and_eq_true] at h1
      refine ⟨h1.1, by omega, ?_, by omega⟩
      rcases cut_pt_idx l with ⟨e1, e2, e3⟩ | ⟨e1, e2, e3, e4⟩
      · rw [e1] at h1
        simp [digs] at h1
        simpa using h1.2.1.1.1
      · rw [e4]; rfl
theorem val_bound {l : List UInt8} (h : chk5 l = 0) : val5 l ≤ 9999999 := by
  obtain ⟨h1, h2, h3, h4⟩ := chk_ok h
  unfold digs at h1
  rw [Bool.and_eq_true] at h1
  have ht : ((restOf l ++ [48, 48, 48]).take 3).all isDig = true := all_take _ _ (by rw [List.all_append, h3]; rfl)
  have hl : ((restOf l ++ [48, 48, 48]).take 3).length = 3 := by simp
  have a := dval_lt _ h1.1
  have b := dval_lt _ ht
  rw [hl] at b
  unfold val5
  rw [dval_append, hl]
  have : 10 ^ (wholeOf l).length ≤ 10 ^ 4 := Nat.pow_le_pow_right (by decide) h2
  have e : (10 : Nat) ^ 4 = 10000 := by decide
  have e3 : (10 : Nat) ^ 3 = 1000 := by decide
  rw [e3] at b ⊢
  omega
theorem val_atoi {l : List UInt8} (h : chk5 l = 0) : atoiAll (wholeOf l ++ (restOf l ++ [48, 48, 48]).take 3) = .ok (val5 l : Int) := by
  obtain ⟨h1, h2, h3, h4⟩ := chk_ok h
  unfold digs at h1
  rw [Bool.and_eq_true] at h1
  have ht : ((restOf l ++ [48, 48, 48]).take 3).all isDig = true := all_take _ _ (by rw [List.all_append, h3]; rfl)
  have hl : ((restOf l ++ [48, 48, 48]).take 3).length = 3 := by simp
  refine atoi_dig _ (digs_of (by rw [List.all_append, h1.1, ht]; rfl) ?_) ?_
  · intro e
    have := congrArg List.length e
    rw [List.length_append, hl] at this
    simp at this
  · rw [List.length_append, hl]
    omega
end Go.Proofs.YtndkpdiacabjgaaGreatDoor
