/-
  Numbers of cues as lists of bytes: plain definitions and laws, no program in sight.
  Plain: integers and texts as bytes, their two readers, and how these agree. No program in sight.
  Plain: cues: what is written, what is read, and when they are right. No program in sight.
-/
import Derived.WalkKit
import Derived.Lib.AtoiAll
import Derived.Lib.ItoaNum
import Derived.Lib.TrimByte
import Derived.Lib.IndexMore
import Derived.Test.YtjeigphhepngmaaGreatDoorBas
namespace Go.Proofs.YtjeigphhepngmaaGreatDoor
open Go.Lib

/-- A byte is a digit. -/
def isDig (b : UInt8) : Bool := decide (48 ≤ b.toNat) && decide (b.toNat ≤ 57)
/-- A text consists of digits, at least one. -/
def digs (l : List UInt8) : Bool := l.all isDig && !l.isEmpty
/-- The value of digits. -/
def dval (l : List UInt8) : Nat := l.foldl (fun n b => 10 * n + (b.toNat - 48)) 0
/-- What is before the first point, behind it, and whether there is one. -/
def wholeOf : List UInt8 → List UInt8
  | [] => []
  | b :: l => if b = 46 then [] else b :: wholeOf l
def restOf : List UInt8 → List UInt8
  | [] => []
  | b :: l => if b = 46 then l else restOf l
def hasPt : List UInt8 → Bool
  | [] => false
  | b :: l => if b = 46 then true else hasPt l

/-- The three forms. -/
def formE (w r : List UInt8) (p : Bool) : Bool :=
  digs w && ((!p || (digs r && r.getLast? != some 48)) && (w.length == 1 || w.head? != some 48))
/-- The number of the error of a text. -/
def chk5 (l : List UInt8) : Int :=
  if formE (wholeOf l) (restOf l) (hasPt l) = false then 3
  else if l = [48] ∨ 4 < (wholeOf l).length ∨ 3 < (restOf l).length then 2 else 0
/-- The thousandths of a right number. -/
def val5 (l : List UInt8) : Nat := dval (wholeOf l ++ (restOf l ++ [48, 48, 48]).take 3)
def thou5 (l : List UInt8) : Int × Int := if chk5 l = 0 then ((val5 l : Int), 0) else (0, chk5 l)
/-- Three digits. -/
def three (m : Nat) : List UInt8 := [UInt8.ofNat (48 + m / 100), UInt8.ofNat (48 + m / 10 % 10), UInt8.ofNat (48 + m % 10)]
/-- The number with right thousandths. -/
def named (n : Nat) : List UInt8 := decDigits (n / 1000) ++ (if n % 1000 = 0 then [] else 46 :: trimRightB (three (n % 1000)) 48)
def of5 (n : Int) : List UInt8 × Int := if 1 ≤ n ∧ n ≤ 9999999 then (named n.toNat, 0) else ([], 2)
/-- The order of two numbers. -/
def ord5 (x y : Int) : Int := if x < y then -1 else if y < x then 1 else 0
def cmp5 (a b : List UInt8) : Int × Int :=
  if chk5 a = 0 then (if chk5 b = 0 then (ord5 (val5 a) (val5 b), 0) else (0, chk5 b)) else (0, chk5 a)
/-- The next multiple of a unit. -/
def nextM (x u : Int) : Int := (x / u + 1) * u
def bet5 (a b : List UInt8) : List UInt8 × Int :=
  if chk5 a = 0 then
    if chk5 b = 0 then
      if (val5 b : Int) ≤ val5 a then ([], 9)
      else if nextM (val5 a) 1000 < val5 b then of5 (nextM (val5 a) 1000)
      else if nextM (val5 a) 100 < val5 b then of5 (nextM (val5 a) 100)
      else if nextM (val5 a) 10 < val5 b then of5 (nextM (val5 a) 10)
      else if nextM (val5 a) 1 < val5 b then of5 (nextM (val5 a) 1)
      else ([], 12)
    else ([], chk5 b)
  else ([], chk5 a)
def aft5 (a : List UInt8) : List UInt8 × Int := if chk5 a = 0 then of5 (nextM (val5 a) 1000) else ([], chk5 a)
def asc5 (last : Int) : List ByteArray → Int
  | [] => 0
  | s :: l => if chk5 s.data.toList = 0 then (if (val5 s.data.toList : Int) ≤ last then 9 else asc5 (val5 s.data.toList) l) else chk5 s.data.toList

/-! ### The cut at the point -/
theorem cut_pt_idx : ∀ l : List UInt8, (hasPt l = true ∧ index l [46] = (wholeOf l).length ∧ l = wholeOf l ++ 46 :: restOf l) ∨ (hasPt l = false ∧ index l [46] = -1 ∧ wholeOf l = l ∧ restOf l = [])
  | [] => Or.inr ⟨rfl, rfl, rfl, rfl⟩
  | b :: l => by
    by_cases hb : b = 46
    · subst hb
      exact Or.inl ⟨rfl, by unfold index; simp [wholeOf], by simp [wholeOf, restOf]⟩
    · have hp : ([46] : List UInt8).isPrefixOf (b :: l) = false := by
        show ((46 : UInt8) == b && List.isPrefixOf [] l) = false
        rw [beq_eq_false_iff_ne.2 (fun h => hb h.symm), Bool.false_and]
      rcases cut_pt_idx l with ⟨h1, h2, h3⟩ | ⟨h1, h2, h3, h4⟩
      · refine Or.inl ⟨by simp [hasPt, hb, h1], ?_, ?_⟩
        · unfold index
          rw [hp, h2]
          have : (((wholeOf l).length : Int) == -1) = false := by rw [beq_eq_false_iff_ne]; omega
          simp [this, wholeOf, hb]
        · simp only [wholeOf, restOf, hb, if_false]
          rw [List.cons_append, ← h3]
      · refine Or.inr ⟨by simp [hasPt, hb, h1], ?_, by simp [wholeOf, hb, h3], by simp [restOf, hb, h4]⟩
        unfold index
        rw [hp, h2]
        simp

theorem cut_pt (l : List UInt8) : cut l [46] = (wholeOf l, restOf l, hasPt l) := by
  rcases cut_pt_idx l with ⟨h1, h2, h3⟩ | ⟨h1, h2, h3, h4⟩
  · unfold cut
    rw [h2, h1, if_pos (by omega)]
    have e : ((wholeOf l).length : Int).toNat = (wholeOf l).length := by simp
    rw [e]
    generalize wholeOf l = w at h3 ⊢
    generalize restOf l = r at h3 ⊢
    subst h3
    simp
  · unfold cut
    rw [h2, h1, h3, h4]
    simp

/-! ### The value of digits -/
theorem dval_nil : dval [] = 0 := rfl
theorem foldl_dval (l : List UInt8) (n : Nat) : l.foldl (fun n b => 10 * n + (b.toNat - 48)) n = n * 10 ^ l.length + dval l := by
  induction l generalizing n with
  | nil => simp [dval]
  | cons b l ih =>
    unfold dval
    rw [List.foldl_cons, List.foldl_cons, ih, ih (10 * 0 + _), List.length_cons, Nat.pow_succ]
    grind
theorem dval_cons (b : UInt8) (l : List UInt8) : dval (b :: l) = (b.toNat - 48) * 10 ^ l.length + dval l := by
  rw [dval, List.foldl_cons, foldl_dval]
  simp
theorem dval_snoc (b : UInt8) (l : List UInt8) : dval (l ++ [b]) = 10 * dval l + (b.toNat - 48) := by simp [dval]
theorem dval_append (a b : List UInt8) : dval (a ++ b) = dval a * 10 ^ b.length + dval b := by
  rw [dval, List.foldl_append, foldl_dval]
  rfl
theorem isDig_le {b : UInt8} (h : isDig b = true) : 48 ≤ b.toNat ∧ b.toNat ≤ 57 := by simpa [isDig] using h
theorem dval_lt : ∀ l : List UInt8, l.all isDig = true → dval l < 10 ^ l.length
  | [], _ => by simp [dval]
  | b :: l, h => by
    rw [List.all_cons, Bool.and_eq_true] at h
    have := isDig_le h.1
    have := dval_lt l h.2
    rw [dval_cons, List.length_cons, Nat.pow_succ]
    have h9 : (b.toNat - 48) * 10 ^ l.length ≤ 9 * 10 ^ l.length := Nat.mul_le_mul_right _ (by omega)
    omega

theorem parse_dig : ∀ (l : List UInt8) (acc c : Nat), l.all isDig = true → l.length + c ≤ 18 → acc < 10 ^ c → parseUint10 acc l = .ok (acc * 10 ^ l.length + dval l)
  | [], acc, c, _, _, _ => by simp [parseUint10, dval]
  | b :: l, acc, c, h, hl, ha => by
    rw [List.all_cons, Bool.and_eq_true] at h
    have hb := isDig_le h.1
    rw [List.length_cons] at hl
    have h18 : 10 ^ (c + 1) ≤ 10 ^ 18 := Nat.pow_le_pow_right (by decide) (by omega)
    rw [show (10 : Nat) ^ 18 = 1000000000000000000 from by decide] at h18
    rw [Nat.pow_succ] at h18
    rw [parseUint10, if_pos hb, if_neg (by omega), if_neg (by omega), parse_dig l _ (c + 1) h.2 (by omega) (by rw [Nat.pow_succ]; omega), dval_cons, List.length_cons, Nat.pow_succ]
    congr 1
    grind

theorem atoi_dig (l : List UInt8) (h : digs l = true) (hl : l.length ≤ 18) : atoiAll l = .ok (dval l : Int) := by
  unfold digs at h
  rw [Bool.and_eq_true] at h
  cases l with
  | nil => simp at h
  | cons b l =>
    have hb := h.1
    rw [List.all_cons, Bool.and_eq_true] at hb
    have hb1 := isDig_le hb.1
    have hp := parse_dig (b :: l) 0 0 h.1 (by simpa using hl) (by simp)
    rw [Nat.zero_mul, Nat.zero_add] at hp
    have hlt := dval_lt (b :: l) h.1
    have h18 : 10 ^ (b :: l).length ≤ 10 ^ 18 := Nat.pow_le_pow_right (by decide) hl
    rw [show (10 : Nat) ^ 18 = 1000000000000000000 from by decide] at h18
    simp only [atoiAll]
    rw [if_neg (by omega), parseMag, if_neg (by simp), hp]
    simp only
    rw [if_neg (by omega), if_neg (by omega), if_neg (by omega)]

/-! ### Digits of numbers -/
/-- The last `k` digits of a number. -/
def decN (n : Nat) : Nat → List UInt8
  | 0 => []
  | k + 1 => decN (n / 10) k ++ [UInt8.ofNat (48 + n % 10)]
theorem decN_length (n k : Nat) : (decN n k).length = k := by
  induction k generalizing n with
  | zero => rfl
  | succ k ih => simp [decN, ih]
theorem decN_cons (n k : Nat) : decN n (k + 1) = UInt8.ofNat (48 + n / 10 ^ k % 10) :: decN n k := by
  induction k generalizing n with
  | zero => simp [decN]
  | succ k ih =>
    rw [decN, ih, decN, Nat.div_div_eq_div_mul, Nat.pow_succ, Nat.mul_comm 10 (10 ^ k)]
    rfl
theorem digit_ok (m : Nat) (h : m < 10) : isDig (UInt8.ofNat (48 + m)) = true ∧ (UInt8.ofNat (48 + m)).toNat = 48 + m := by
  have e : (UInt8.ofNat (48 + m)).toNat = 48 + m := by simp; omega
  exact ⟨by simp [isDig]; omega, e⟩
theorem decN_digs (n k : Nat) : (decN n k).all isDig = true := by
  induction k generalizing n with
  | zero => rfl
  | succ k ih => rw [decN, List.all_append, ih, List.all_cons, (digit_ok (n % 10) (by omega)).1]; rfl
theorem dval_decN (n k : Nat) : dval (decN n k) = n % 10 ^ k := by
  induction k generalizing n with
  | zero => simp [decN, dval, Nat.mod_one]
  | succ k ih =>
    rw [decN, dval_snoc, ih, (digit_ok (n % 10) (by omega)).2, Nat.pow_succ, Nat.mul_comm (10 ^ k) 10, Nat.mod_mul]
    omega
theorem decDigits_decN (k n : Nat) (h0 : n / 10 ^ (k + 1) = 0) (h1 : k = 0 ∨ 0 < n / 10 ^ k) : decDigits n = decN n (k + 1) := by
  induction k generalizing n with
  | zero =>
    have : n < 10 := by
      rw [Nat.pow_one] at h0
      omega
    rw [decDigits, dif_pos this]
    simp [decN, Nat.mod_eq_of_lt this]
  | succ k ih =>
    have h2 : ¬ n < 10 := fun h => by
      rcases h1 with h1 | h1
      · omega
      · rw [Nat.div_eq_of_lt (Nat.lt_of_lt_of_le h (by rw [Nat.pow_succ]; have := Nat.one_le_pow k 10 (by decide); omega))] at h1
        omega
    rw [decDigits, dif_neg h2, decN, ih (n / 10)]
    · rw [Nat.div_div_eq_div_mul, Nat.mul_comm, ← Nat.pow_succ]; exact h0
    · rcases h1 with h1 | h1
      · omega
      · by_cases hk : k = 0
        · exact Or.inl hk
        · refine Or.inr ?_
          rw [Nat.div_div_eq_div_mul, Nat.mul_comm, ← Nat.pow_succ]; exact h1
theorem dec_exists (n : Nat) : ∃ k, n / 10 ^ (k + 1) = 0 ∧ (k = 0 ∨ 0 < n / 10 ^ k) := by
  induction n using Nat.strongRecOn with
  | ind n ih =>
    by_cases h : n < 10
    · exact ⟨0, by simp; omega, Or.inl rfl⟩
    · obtain ⟨k, h1, h2⟩ := ih (n / 10) (by omega)
      rw [Nat.div_div_eq_div_mul, Nat.mul_comm, ← Nat.pow_succ] at h1
      rw [Nat.div_div_eq_div_mul, Nat.mul_comm, ← Nat.pow_succ] at h2
      refine ⟨k + 1, h1, Or.inr ?_⟩
      rcases h2 with h2 | h2
      · subst h2
        simp
        omega
      · exact h2
theorem decDigits_all (n : Nat) : (decDigits n).all isDig = true := by
  obtain ⟨k, h1, h2⟩ := dec_exists n
  rw [decDigits_decN k n h1 h2]
  exact decN_digs _ _
theorem decDigits_ne (n : Nat) : decDigits n ≠ [] := by
  obtain ⟨k, h1, h2⟩ := dec_exists n
  rw [decDigits_decN k n h1 h2]
  intro h
  have := congrArg List.length h
  rw [decN_length] at this
  simp at this
theorem dval_decDigits (n : Nat) : dval (decDigits n) = n := by
  obtain ⟨k, h1, h2⟩ := dec_exists n
  rw [decDigits_decN k n h1 h2, dval_decN]
  refine Nat.mod_eq_of_lt ?_
  have hp : 0 < 10 ^ (k + 1) := Nat.pow_pos (by decide)
  exact (Nat.div_eq_zero_iff_lt hp).1 h1
theorem decDigits_len (n : Nat) (h : n ≤ 9999) : (decDigits n).length ≤ 4 := by
  obtain ⟨k, h1, h2⟩ := dec_exists n
  rw [decDigits_decN k n h1 h2, decN_length]
  rcases h2 with h2 | h2
  · omega
  · have : k < 4 := by
      refine Nat.lt_of_not_le fun h4 => ?_
      have : 10 ^ 4 ≤ 10 ^ k := Nat.pow_le_pow_right (by decide) h4
      have e : (10 : Nat) ^ 4 = 10000 := by decide
      rw [Nat.div_eq_of_lt (by omega)] at h2
      omega
    omega
theorem decDigits_head (n : Nat) : ((decDigits n).length == 1 || (decDigits n).head? != some 48) = true := by
  obtain ⟨k, h1, h2⟩ := dec_exists n
  rw [decDigits_decN k n h1 h2, decN_length]
  rcases h2 with h2 | h2
  · subst h2; rfl
  · rw [decN_cons]
    have hk : n / 10 ^ k < 10 := by
      rw [Nat.pow_succ, ← Nat.div_div_eq_div_mul] at h1
      omega
    simp only [List.head?_cons, Bool.or_eq_true]
    refine Or.inr ?_
    rw [bne_iff_ne]
    intro h
    injection h with h
    have := congrArg UInt8.toNat h
    rw [(digit_ok _ (Nat.mod_lt _ (by decide))).2, Nat.mod_eq_of_lt hk, show (48 : UInt8).toNat = 48 from rfl] at this
    omega
theorem three_decN (m : Nat) (h : m < 1000) : three m = decN m 3 := by
  simp only [decN, three, List.nil_append, List.cons_append]
  rw [show m / 10 / 10 % 10 = m / 100 from by omega]
theorem dec1000 (m : Nat) (h : m < 1000) : decDigits (1000 + m) = 49 :: three m := by
  rw [decDigits_decN 3 _ (Nat.div_eq_of_lt (by omega)) (Or.inr (Nat.div_pos (by omega) (by decide))), decN_cons, three_decN m h]
  have e : (1000 + m) / 10 ^ 3 % 10 = 1 := by omega
  rw [e]
  have e2 : decN (1000 + m) 3 = decN m 3 := by
    simp only [decN, List.nil_append, List.cons_append]
    rw [show (1000 + m) / 10 / 10 % 10 = m / 10 / 10 % 10 from by omega, show (1000 + m) / 10 % 10 = m / 10 % 10 from by omega, show (1000 + m) % 10 = m % 10 from by omega]
  rw [e2]
  rfl

/-! ### The digits behind the point -/
/-- How many decimals thousandths have. -/
def decs (m : Nat) : Nat := if m % 10 ≠ 0 then 3 else if m % 100 ≠ 0 then 2 else if m % 1000 ≠ 0 then 1 else 0
theorem digit_ne (m : Nat) (h : m < 10) : UInt8.ofNat (48 + m) = 48 ↔ m = 0 := by
  constructor
  · intro e
    have := congrArg UInt8.toNat e
    rw [(digit_ok m h).2] at this
    simp at this
    omega
  · rintro rfl; rfl
theorem trim_three (m : Nat) (h : m < 1000) : trimRightB (three m) 48 = (three m).take (decs m) := by
  have a := digit_ne (m / 100) (by omega)
  have b := digit_ne (m / 10 % 10) (by omega)
  have c := digit_ne (m % 10) (by omega)
  unfold trimRightB three decs
  simp only [List.reverse_cons, List.reverse_nil, List.nil_append, List.cons_append, List.dropWhile_cons, beq_iff_eq, a, b, c, List.dropWhile_nil]
  by_cases h1 : m % 10 = 0
  · by_cases h2 : m / 10 % 10 = 0
    · by_cases h3 : m / 100 = 0
      · have : m = 0 := by omega
        subst this
        rfl
      · rw [if_neg (by omega : ¬ m % 10 ≠ 0), if_neg (by omega : ¬ m % 100 ≠ 0), if_pos (by omega : m % 1000 ≠ 0)]
        simp [h1, h2, h3]
    · rw [if_neg (by omega : ¬ m % 10 ≠ 0), if_pos (by omega : m % 100 ≠ 0)]
      simp [h1, h2]
  · rw [if_pos (by omega : m % 10 ≠ 0)]
    simp [h1]
theorem trim_len (m : Nat) (h : m < 1000) : (trimRightB (three m) 48).length = decs m := by
  rw [trim_three m h]
  simp [three, decs]
  repeat' split
  all_goals omega
theorem three_digs (m : Nat) (h : m < 1000) : (three m).all isDig = true := by rw [three_decN m h]; exact decN_digs _ _
theorem all_take {p : UInt8 → Bool} : ∀ (l : List UInt8) (n : Nat), l.all p = true → (l.take n).all p = true := fun l n h => by
  rw [List.all_eq_true] at h ⊢
  exact fun x hx => h x (List.mem_of_mem_take hx)
theorem trim_digs (m : Nat) (h : m < 1000) : (trimRightB (three m) 48).all isDig = true := by
  rw [trim_three m h]
  exact all_take _ _ (three_digs m h)
theorem trim_ne (m : Nat) (h : m < 1000) (h0 : m ≠ 0) : trimRightB (three m) 48 ≠ [] := by
  intro e
  have := congrArg List.length e
  rw [trim_len m h] at this
  simp [decs] at this
  repeat' split at this
  all_goals omega
theorem trim_zero : trimRightB (three 0) 48 = [] := by rw [trim_three 0 (by decide)]; rfl
theorem trim_last (m : Nat) (h : m < 1000) : (trimRightB (three m) 48).getLast? ≠ some 48 := by
  have a := digit_ne (m / 100) (by omega)
  have b := digit_ne (m / 10 % 10) (by omega)
  have c := digit_ne (m % 10) (by omega)
  rw [trim_three m h]
  unfold decs three
  split
  · rename_i h1
    simp only [List.take, List.getLast?, ne_eq, Option.some.injEq]
    exact fun e => h1 (c.1 e)
  · split
    · rename_i h1 h2
      simp only [List.take, List.getLast?, ne_eq, Option.some.injEq]
      exact fun e => by
        have := b.1 e
        omega
    · split
      · rename_i h1 h2 h3
        simp only [List.take, List.getLast?, ne_eq, Option.some.injEq]
        exact fun e => by
          have := a.1 e
          omega
      · simp
theorem trim_pad (m : Nat) (h : m < 1000) : (trimRightB (three m) 48 ++ [48, 48, 48]).take 3 = three m := by
  have a := digit_ne (m / 100) (by omega)
  have b := digit_ne (m / 10 % 10) (by omega)
  have c := digit_ne (m % 10) (by omega)
  rw [trim_three m h]
  unfold decs three
  by_cases h1 : m % 10 = 0
  · have c' := c.2 h1
    by_cases h2 : m / 10 % 10 = 0
    · have b' := b.2 h2
      by_cases h3 : m / 100 = 0
      · have a' := a.2 h3
        rw [if_neg (by omega : ¬ m % 10 ≠ 0), if_neg (by omega : ¬ m % 100 ≠ 0), if_neg (by omega : ¬ m % 1000 ≠ 0), a', b', c']
        rfl
      · rw [if_neg (by omega : ¬ m % 10 ≠ 0), if_neg (by omega : ¬ m % 100 ≠ 0), if_pos (by omega : m % 1000 ≠ 0), b', c']
        rfl
    · rw [if_neg (by omega : ¬ m % 10 ≠ 0), if_pos (by omega : m % 100 ≠ 0), c']
      rfl
  · rw [if_pos (by omega : m % 10 ≠ 0)]
    rfl

/-! ### What is named is a number, and has these thousandths -/
theorem no_pt : ∀ l : List UInt8, l.all isDig = true → wholeOf l = l ∧ restOf l = [] ∧ hasPt l = false
  | [], _ => ⟨rfl, rfl, rfl⟩
  | b :: l, h => by
    rw [List.all_cons, Bool.and_eq_true] at h
    have hb : b ≠ 46 := by
      rintro rfl
      exact absurd h.1 (by decide)
    obtain ⟨h1, h2, h3⟩ := no_pt l h.2
    simp [wholeOf, restOf, hasPt, hb, h1, h2, h3]
theorem with_pt : ∀ (l r : List UInt8), l.all isDig = true → wholeOf (l ++ 46 :: r) = l ∧ restOf (l ++ 46 :: r) = r ∧ hasPt (l ++ 46 :: r) = true
  | [], _, _ => ⟨rfl, rfl, rfl⟩
  | b :: l, r, h => by
    rw [List.all_cons, Bool.and_eq_true] at h
    have hb : b ≠ 46 := by
      rintro rfl
      exact absurd h.1 (by decide)
    obtain ⟨h1, h2, h3⟩ := with_pt l r h.2
    simp [wholeOf, restOf, hasPt, hb, h1, h2, h3]
theorem named_parts (n : Nat) : wholeOf (named n) = decDigits (n / 1000) ∧ restOf (named n) = trimRightB (three (n % 1000)) 48 ∧ hasPt (named n) = decide (n % 1000 ≠ 0) := by
  unfold named
  by_cases h : n % 1000 = 0
  · rw [if_pos h, h, List.append_nil, trim_zero]
    simpa using no_pt _ (decDigits_all (n / 1000))
  · rw [if_neg h]
    simpa [h] using with_pt _ (trimRightB (three (n % 1000)) 48) (decDigits_all (n / 1000))
theorem digs_of {l : List UInt8} (h : l.all isDig = true) (h0 : l ≠ []) : digs l = true := by
  unfold digs
  rw [h]
  cases l with
  | nil => exact absurd rfl h0
  | cons b l => rfl
theorem val_named (n : Nat) : val5 (named n) = n := by
  obtain ⟨h1, h2, -⟩ := named_parts n
  unfold val5
  rw [h1, h2, trim_pad _ (by omega), dval_append, dval_decDigits, three_decN _ (by omega), decN_length, dval_decN]
  omega
theorem chk_named (n : Nat) (h1 : 1 ≤ n) (h2 : n ≤ 9999999) : chk5 (named n) = 0 := by
  obtain ⟨e1, e2, e3⟩ := named_parts n
  have hf : formE (wholeOf (named n)) (restOf (named n)) (hasPt (named n)) = true := by
    unfold formE
    rw [e1, e2, e3, digs_of (decDigits_all _) (decDigits_ne _), decDigits_head]
    by_cases h : n % 1000 = 0
    · simp [h]
    · rw [digs_of (trim_digs _ (by omega)) (trim_ne _ (by omega) h)]
      have := trim_last (n % 1000) (by omega)
      simp [this]
  unfold chk5
  rw [hf, if_neg (by simp), if_neg]
  rintro (h | h | h)
  · have := val_named n
    rw [h] at this
    have e : val5 [48] = 0 := by decide
    omega
  · rw [e1] at h
    have := decDigits_len (n / 1000) (by omega)
    omega
  · rw [e2, trim_len _ (by omega)] at h
    simp only [decs] at h
    repeat' split at h
    all_goals omega

/-- What a right number is made of. -/
theorem chk_ok {l : List UInt8} (h : chk5 l = 0) : digs (wholeOf l) = true ∧ (wholeOf l).length ≤ 4 ∧ (restOf l).all isDig = true ∧ (restOf l).length ≤ 3 := by
  unfold chk5 formE at h
  split at h
  · exact absurd h (by decide)
  · split at h
    · exact absurd h (by decide)
    · rename_i h1 h2
      simp only [Bool.not_eq_false, Bool.and_eq_true] at h1
      refine ⟨h1.1, by omega, ?_, by omega⟩
      rcases cut_pt_idx l with ⟨e1, e2, e3⟩ | ⟨e1, e2, e3, e4⟩
      · rw [e1] at h1
        simp [digs] at h1
        simpa using h1.2.1.1.1
      · rw [e4]; rfl
theorem val_bound {l : List UInt8} (h : chk5 l = 0) : val5 l ≤ 9999999 := by
  obtain ⟨h1, h2, h3, h4⟩ := chk_ok h
  unfold digs at h1
  rw [Bool.and_eq_true] at h1
  have ht : ((restOf l ++ [48, 48, 48]).take 3).all isDig = true := all_take _ _ (by rw [List.all_append, h3]; rfl)
  have hl : ((restOf l ++ [48, 48, 48]).take 3).length = 3 := by simp
  have a := dval_lt _ h1.1
  have b := dval_lt _ ht
  rw [hl] at b
  unfold val5
  rw [dval_append, hl]
  have : 10 ^ (wholeOf l).length ≤ 10 ^ 4 := Nat.pow_le_pow_right (by decide) h2
  have e : (10 : Nat) ^ 4 = 10000 := by decide
  have e3 : (10 : Nat) ^ 3 = 1000 := by decide
  rw [e3] at b ⊢
  omega
theorem val_atoi {l : List UInt8} (h : chk5 l = 0) : atoiAll (wholeOf l ++ (restOf l ++ [48, 48, 48]).take 3) = .ok (val5 l : Int) := by
  obtain ⟨h1, h2, h3, h4⟩ := chk_ok h
  unfold digs at h1
  rw [Bool.and_eq_true] at h1
  have ht : ((restOf l ++ [48, 48, 48]).take 3).all isDig = true := all_take _ _ (by rw [List.all_append, h3]; rfl)
  have hl : ((restOf l ++ [48, 48, 48]).take 3).length = 3 := by simp
  refine atoi_dig _ (digs_of (by rw [List.all_append, h1.1, ht]; rfl) ?_) ?_
  · intro e
    have := congrArg List.length e
    rw [List.length_append, hl] at this
    simp at this
  · rw [List.length_append, hl]
    omega
end Go.Proofs.YtjeigphhepngmaaGreatDoor

namespace Go.Proofs.YtjeigphhepngmaaGreatDoor

/-! ### What is written -/
/-- A number in groups of seven bits, the lowest first. -/
def vint (z : Nat) : List UInt8 := if z < 128 then [UInt8.ofNat z] else UInt8.ofNat (z % 128 + 128) :: vint (z / 128)
termination_by z
decreasing_by omega
/-- An int as a number: the sign is the lowest bit. -/
def zig (n : Int) : Nat := if 0 ≤ n then (2 * n).toNat else (-2 * n - 1).toNat
def intB (n : Int) : List UInt8 := vint (zig n)
def textB (s : ByteArray) : List UInt8 := if 65535 < s.size then [] else intB s.size ++ s.data.toList
def intsB (l : List Int) : List UInt8 := l.flatMap intB
def truthI (b : Bool) : Int := if b then 1 else 0

theorem intsB_nil : intsB [] = [] := rfl
theorem intsB_cons (n : Int) (l : List Int) : intsB (n :: l) = intB n ++ intsB l := by simp [intsB]
theorem intsB_append (a b : List Int) : intsB (a ++ b) = intsB a ++ intsB b := by simp [intsB]

/-! ### What is read -/
/-- The number of an int that was written. -/
def unzig (z : Nat) : Int := if z % 2 = 0 then (z / 2 : Nat) else -((z / 2 : Nat) : Int) - 1
/-- The groups of a number from the group `i` on, what was read before being `z`. -/
def gz (i z : Nat) : List UInt8 → Except Int (Nat × Nat)
  | [] => .error 20
  | c :: l => if 128 ≤ c.toNat ∧ i < 9 then gz (i + 1) (z + c.toNat % 128 * 2 ^ (7 * i)) l
    else if (0 < i ∧ c.toNat = 0) ∨ (i = 9 ∧ 1 < c.toNat) then .error 3 else .ok (z + c.toNat * 2 ^ (7 * i), i + 1)
def getI (s : ByteArray) (at_ : Nat) : Except Int (Int × Nat) :=
  match gz 0 0 (s.data.toList.drop at_) with
  | .error e => .error e
  | .ok (z, c) => .ok (unzig z, at_ + c)
def getT (s : ByteArray) (at_ : Nat) : Except Int (ByteArray × Nat) :=
  match getI s at_ with
  | .error e => .error e
  | .ok (n, nx) => if n < 0 ∨ 65535 < n then .error 3 else if (s.size : Int) - nx < n then .error 20 else .ok (s.extract nx (nx + n.toNat), nx + n.toNat)

theorem gz_lt : ∀ (l : List UInt8) (i z z' c : Nat), i ≤ 9 → z < 2 ^ (7 * i) → gz i z l = .ok (z', c) → z' < 18446744073709551616
  | [], i, z, z', c, _, _, h => by simp [gz] at h
  | d :: l, i, z, z', c, hi, hz, h => by
    have hp : 2 ^ (7 * (i + 1)) = 128 * 2 ^ (7 * i) := by rw [show 7 * (i + 1) = 7 + 7 * i from by omega, Nat.pow_add]
    unfold gz at h
    split at h
    · refine gz_lt l _ _ _ _ (by omega) ?_ h
      have hd : d.toNat % 128 ≤ 127 := by omega
      have := Nat.mul_le_mul_right (2 ^ (7 * i)) hd
      omega
    · rename_i hn
      split at h
      · cases h
      · rename_i hm
        simp at h
        obtain ⟨h1, _⟩ := h
        by_cases h9 : i = 9
        · subst h9
          have hd : d.toNat ≤ 1 := by omega
          have := Nat.mul_le_mul_right (2 ^ (7 * 9)) hd
          have e : (2 : Nat) ^ (7 * 9) = 9223372036854775808 := by decide
          rw [e] at *
          omega
        · have hd : d.toNat ≤ 127 := by omega
          have := Nat.mul_le_mul_right (2 ^ (7 * i)) hd
          have h2 : 2 ^ (7 * (i + 1)) ≤ 2 ^ 63 := Nat.pow_le_pow_right (by decide) (by omega)
          have e : (2 : Nat) ^ 63 = 9223372036854775808 := by decide
          rw [e] at h2
          omega
/-- The error of a number is 20 or 3; what was read lies in the text. -/
theorem gz_bounds : ∀ (l : List UInt8) (i z : Nat), i ≤ 9 → match gz i z l with | .error e => e = 20 ∨ e = 3 | .ok (_, c) => i < c ∧ c ≤ i + l.length ∧ c ≤ 10
  | [], i, z, _ => by simp [gz]
  | c :: l, i, z, hi => by
    by_cases h1 : 128 ≤ c.toNat ∧ i < 9
    · rw [gz, if_pos h1]
      have := gz_bounds l (i + 1) (z + c.toNat % 128 * 2 ^ (7 * i)) (by omega)
      cases hx : gz (i + 1) (z + c.toNat % 128 * 2 ^ (7 * i)) l with
      | error e => rw [hx] at this; exact this
      | ok y =>
        rw [hx] at this
        simp only [List.length_cons] at this ⊢
        omega
    · rw [gz, if_neg h1]
      by_cases h2 : (0 < i ∧ c.toNat = 0) ∨ (i = 9 ∧ 1 < c.toNat)
      · rw [if_pos h2]; exact .inr rfl
      · rw [if_neg h2]
        simp only [List.length_cons]
        omega
theorem getI_ok {s : ByteArray} {a nx : Nat} {n : Int} (h : getI s a = .ok (n, nx)) (ha : a ≤ s.size) : a < nx ∧ nx ≤ s.size := by
  have hb := gz_bounds (s.data.toList.drop a) 0 0 (by omega)
  unfold getI at h
  split at h
  · cases h
  · rename_i z c hx
    rw [hx] at hb
    simp at h hb
    omega
theorem getI_err {s : ByteArray} {a : Nat} {e : Int} (h : getI s a = .error e) : e = 20 ∨ e = 3 := by
  have hb := gz_bounds (s.data.toList.drop a) 0 0 (by omega)
  unfold getI at h
  split at h
  · rename_i e' hx
    rw [hx] at hb
    cases h
    exact hb
  · cases h
theorem getI_int {s : ByteArray} {a nx : Nat} {n : Int} (h : getI s a = .ok (n, nx)) : -9223372036854775808 ≤ n ∧ n ≤ 9223372036854775807 := by
  unfold getI at h
  split at h
  · cases h
  · rename_i z c hx
    have := gz_lt _ _ _ _ _ (by omega) (by simp) hx
    simp at h
    obtain ⟨h1, _⟩ := h
    subst h1
    unfold unzig
    split <;> omega
theorem rI_int {s : ByteArray} {a nx : Nat} {n : Int} (h : (getI s a).toOption = some (n, nx)) : -9223372036854775808 ≤ n ∧ n ≤ 9223372036854775807 := by
  cases hx : getI s a with
  | error e => rw [hx] at h; cases h
  | ok y => rw [hx] at h; simp [Except.toOption] at h; subst h; exact getI_int hx
theorem getT_ok {s t : ByteArray} {a nx : Nat} (h : getT s a = .ok (t, nx)) (ha : a ≤ s.size) : a < nx ∧ nx ≤ s.size ∧ t.size ≤ 65535 := by
  unfold getT at h
  split at h
  · cases h
  · rename_i n k hx
    have := getI_ok hx ha
    split at h
    · cases h
    · split at h
      · cases h
      · simp at h
        obtain ⟨h1, h2⟩ := h
        subst h1 h2
        simp [ByteArray.size_extract]
        omega
theorem getT_err {s : ByteArray} {a : Nat} {e : Int} (h : getT s a = .error e) : e = 20 ∨ e = 3 := by
  unfold getT at h
  split at h
  · rename_i e' hx
    cases h
    exact getI_err hx
  · split at h
    · cases h; exact .inr rfl
    · split at h
      · cases h; exact .inl rfl
      · cases h

/-! ### A reader that stops (the program's) -/
/-- What is read at an offset: the value and the next offset, or nothing. -/
abbrev Rd (α : Type) := Nat → Option (α × Nat)
def rI (s : ByteArray) : Rd Int := fun a => (getI s a).toOption
def rT (s : ByteArray) : Rd ByteArray := fun a => (getT s a).toOption
/-- An int that is not negative and at most `m`. -/
def rN (s : ByteArray) (m : Int) : Rd Int := fun a => (rI s a).bind fun x => if x.1 < 0 ∨ m < x.1 then none else some x
def rB (s : ByteArray) : Rd Bool := fun a => (rN s 1 a).map fun x => (x.1 == 1, x.2)
/-- Some ints. -/
def rIs (s : ByteArray) : Nat → Rd (List Int)
  | 0, a => some ([], a)
  | k + 1, a => (rI s a).bind fun x => (rIs s k x.2).map fun y => (x.1 :: y.1, y.2)
/-- A list of so many elements. -/
def rL {α : Type} (f : Rd α) : Nat → Rd (List α)
  | 0, a => some ([], a)
  | k + 1, a => (f a).bind fun x => (rL f k x.2).map fun y => (x.1 :: y.1, y.2)
/-- A list behind its length. -/
def rLs {α : Type} (s : ByteArray) (f : Rd α) : Rd (List α) := fun a => (rN s 9223372036854775807 a).bind fun x => rL f x.1.toNat x.2

/-- A reader goes forward and stays in the text. -/
def Fwd {α : Type} (s : ByteArray) (f : Rd α) : Prop := ∀ a x b, f a = some (x, b) → a ≤ s.size → a < b ∧ b ≤ s.size
def Fwd0 {α : Type} (s : ByteArray) (f : Rd α) : Prop := ∀ a x b, f a = some (x, b) → a ≤ s.size → a ≤ b ∧ b ≤ s.size
theorem Fwd.zero {α : Type} {s : ByteArray} {f : Rd α} (h : Fwd s f) : Fwd0 s f := fun a x b e ha => by
  have := h a x b e ha
  omega
theorem fwd_rI (s : ByteArray) : Fwd s (rI s) := fun a x b h ha => by
  unfold rI at h
  cases hx : getI s a with
  | error e => rw [hx] at h; cases h
  | ok y => rw [hx] at h; simp [Except.toOption] at h; subst h; exact getI_ok hx ha
theorem fwd_rT (s : ByteArray) : Fwd s (rT s) := fun a x b h ha => by
  unfold rT at h
  cases hx : getT s a with
  | error e => rw [hx] at h; cases h
  | ok y =>
    rw [hx] at h
    simp [Except.toOption] at h
    subst h
    have := getT_ok hx ha
    omega
theorem fwd_rN (s : ByteArray) (m : Int) : Fwd s (rN s m) := fun a x b h ha => by
  unfold rN at h
  obtain ⟨y, hy, h2⟩ := Option.bind_eq_some_iff.1 h
  split at h2
  · cases h2
  · cases h2
    exact fwd_rI s _ _ _ hy ha
theorem fwd_rB (s : ByteArray) : Fwd s (rB s) := fun a x b h ha => by
  unfold rB at h
  obtain ⟨y, hy, h2⟩ := Option.map_eq_some_iff.1 h
  cases h2
  exact fwd_rN s 1 _ _ _ hy ha
theorem fwd_rIs (s : ByteArray) : ∀ k, Fwd0 s (rIs s k)
  | 0, a, x, b, h, ha => by cases h; omega
  | k + 1, a, x, b, h, ha => by
    obtain ⟨y, hy, h2⟩ := Option.bind_eq_some_iff.1 h
    obtain ⟨z, hz, h3⟩ := Option.map_eq_some_iff.1 h2
    cases h3
    have h4 := fwd_rI s _ _ _ hy ha
    have h5 := fwd_rIs s k _ _ _ hz h4.2
    omega
theorem rIs_length {s : ByteArray} : ∀ {k a : Nat} {x : List Int} {b : Nat}, rIs s k a = some (x, b) → x.length = k
  | 0, _, _, _, h => by cases h; rfl
  | k + 1, _, _, _, h => by
    obtain ⟨y, hy, h2⟩ := Option.bind_eq_some_iff.1 h
    obtain ⟨z, hz, h3⟩ := Option.map_eq_some_iff.1 h2
    cases h3
    simp [rIs_length hz]
theorem fwd_rL {α : Type} {s : ByteArray} {f : Rd α} (hf : Fwd s f) : ∀ k a x b, rL f k a = some (x, b) → a ≤ s.size → x.length = k ∧ a + k ≤ b ∧ b ≤ s.size
  | 0, a, x, b, h, ha => by cases h; exact ⟨rfl, by omega, ha⟩
  | k + 1, a, x, b, h, ha => by
    obtain ⟨y, hy, h2⟩ := Option.bind_eq_some_iff.1 h
    obtain ⟨z, hz, h3⟩ := Option.map_eq_some_iff.1 h2
    cases h3
    have h4 := hf _ _ _ hy ha
    have h5 := fwd_rL hf k _ _ _ hz h4.2
    simp
    omega
theorem fwd_rLs {α : Type} {s : ByteArray} {f : Rd α} (hf : Fwd s f) : Fwd s (rLs s f) := fun a x b h ha => by
  obtain ⟨y, hy, h2⟩ := Option.bind_eq_some_iff.1 h
  have h4 := fwd_rN s _ _ _ _ hy ha
  have h5 := fwd_rL hf _ _ _ _ h2 h4.2
  omega
theorem rLs_length {α : Type} {s : ByteArray} {f : Rd α} (hf : Fwd s f) {a b : Nat} {x : List α} (h : rLs s f a = some (x, b)) (ha : a ≤ s.size) : x.length ≤ s.size := by
  obtain ⟨y, hy, h2⟩ := Option.bind_eq_some_iff.1 h
  have h4 := fwd_rN s _ _ _ _ hy ha
  have h5 := fwd_rL hf _ _ _ _ h2 h4.2
  omega

/-! ### A reader that goes on (the reference's) -/
/-- Its state: the offset, and whether something was not as it should be. -/
structure RS where
  at_ : Nat
  bad : Bool
abbrev Rq (α : Type) := RS → α × RS
def qI (s : ByteArray) : Rq Int := fun st =>
  match getI s st.at_ with
  | .ok (n, nx) => if st.bad then (0, ⟨st.at_, true⟩) else (n, ⟨nx, false⟩)
  | .error _ => (0, ⟨st.at_, true⟩)
def qT (s : ByteArray) : Rq ByteArray := fun st =>
  match getT s st.at_ with
  | .ok (n, nx) => if st.bad then (⟨#[]⟩, ⟨st.at_, true⟩) else (n, ⟨nx, false⟩)
  | .error _ => (⟨#[]⟩, ⟨st.at_, true⟩)
def qB (s : ByteArray) : Rq Bool := fun st => ((qI s st).1 == 1, ⟨(qI s st).2.at_, (qI s st).2.bad || !((qI s st).1 == 0 || (qI s st).1 == 1)⟩)
def qM (s : ByteArray) : Rq Int := fun st => ((qI s st).1, ⟨(qI s st).2.at_, (qI s st).2.bad || decide ((qI s st).1 < 0)⟩)
def qIs (s : ByteArray) : Nat → Rq (List Int)
  | 0, st => ([], st)
  | k + 1, st => ((qI s st).1 :: (qIs s k (qI s st).2).1, (qIs s k (qI s st).2).2)
def qL {α : Type} (f : Rq α) : Nat → Rq (List α)
  | 0, st => ([], st)
  | k + 1, st => if st.bad then ([], st) else ((f st).1 :: (qL f k (f st).2).1, (qL f k (f st).2).2)
def qLs {α : Type} (s : ByteArray) (f : Rq α) : Rq (List α) := fun st => qL f (qM s st).1.toNat (qM s st).2

/-- The two readers agree, and what is bad stays bad. -/
structure Agree {α : Type} (f : Rd α) (q : Rq α) : Prop where
  some : ∀ a x b, f a = .some (x, b) → q ⟨a, false⟩ = (x, ⟨b, false⟩)
  none : ∀ a, f a = .none → (q ⟨a, false⟩).2.bad = true
  bad : ∀ st, st.bad = true → (q st).2.bad = true
/-- The reader that goes on goes forward, too. -/
structure FwdQ {α : Type} (s : ByteArray) (q : Rq α) : Prop where
  fwd : ∀ st, st.at_ ≤ s.size → st.at_ ≤ (q st).2.at_ ∧ (q st).2.at_ ≤ s.size
  good : ∀ st, st.at_ ≤ s.size → (q st).2.bad = false → st.bad = false ∧ st.at_ < (q st).2.at_

theorem agree_I (s : ByteArray) : Agree (rI s) (qI s) := by
  refine ⟨fun a x b h => ?_, fun a h => ?_, fun st h => ?_⟩
  · unfold rI at h
    cases hx : getI s a with
    | error e => rw [hx] at h; cases h
    | ok y => rw [hx] at h; simp [Except.toOption] at h; subst h; simp [qI, hx]
  · unfold rI at h
    cases hx : getI s a with
    | error e => simp [qI, hx]
    | ok y => rw [hx] at h; cases h
  · unfold qI
    cases hx : getI s st.at_ <;> simp [h]
theorem agree_T (s : ByteArray) : Agree (rT s) (qT s) := by
  refine ⟨fun a x b h => ?_, fun a h => ?_, fun st h => ?_⟩
  · unfold rT at h
    cases hx : getT s a with
    | error e => rw [hx] at h; cases h
    | ok y => rw [hx] at h; simp [Except.toOption] at h; subst h; simp [qT, hx]
  · unfold rT at h
    cases hx : getT s a with
    | error e => simp [qT, hx]
    | ok y => rw [hx] at h; cases h
  · unfold qT
    cases hx : getT s st.at_ <;> simp [h]
theorem fwdQ_I (s : ByteArray) : FwdQ s (qI s) := by
  refine ⟨fun st h => ?_, fun st h hb => ?_⟩
  · unfold qI
    cases hx : getI s st.at_ with
    | error e => simp [h]
    | ok y =>
      have := getI_ok hx h
      cases st.bad <;> simp [h]
      omega
  · unfold qI at hb ⊢
    cases hx : getI s st.at_ with
    | error e => rw [hx] at hb; simp at hb
    | ok y =>
      have := getI_ok hx h
      rw [hx] at hb
      cases hs : st.bad with
      | true => rw [hs] at hb; simp at hb
      | false => simp; omega
theorem fwdQ_T (s : ByteArray) : FwdQ s (qT s) := by
  refine ⟨fun st h => ?_, fun st h hb => ?_⟩
  · unfold qT
    cases hx : getT s st.at_ with
    | error e => simp [h]
    | ok y =>
      have := getT_ok hx h
      cases st.bad <;> simp [h]
      omega
  · unfold qT at hb ⊢
    cases hx : getT s st.at_ with
    | error e => rw [hx] at hb; simp at hb
    | ok y =>
      have := getT_ok hx h
      rw [hx] at hb
      cases hs : st.bad with
      | true => rw [hs] at hb; simp at hb
      | false => simp; omega
theorem agree_B (s : ByteArray) : Agree (rB s) (qB s) := by
  have A := agree_I s
  refine ⟨fun a x b h => ?_, fun a h => ?_, fun st h => ?_⟩
  · unfold rB rN at h
    obtain ⟨y, hy, h2⟩ := Option.map_eq_some_iff.1 h
    obtain ⟨z, hz, h3⟩ := Option.bind_eq_some_iff.1 hy
    split at h3
    · cases h3
    · cases h3
      have := A.some _ _ _ hz
      unfold qB
      rw [this]
      simp at h2 ⊢
      obtain ⟨h4, h5⟩ := h2
      refine ⟨h4, h5, ?_⟩
      omega
  · unfold rB rN at h
    unfold qB
    cases hz : rI s a with
    | none => simp [A.none _ hz]
    | some z =>
      rw [hz] at h
      simp at h
      rw [A.some _ _ _ hz]
      simp
      omega
  · unfold qB
    simp [A.bad st h]
theorem fwdQ_B (s : ByteArray) : FwdQ s (qB s) := by
  have F := fwdQ_I s
  refine ⟨fun st h => F.fwd st h, fun st h hb => ?_⟩
  unfold qB at hb
  simp at hb
  exact F.good st h hb.1
theorem fwdQ_M (s : ByteArray) : FwdQ s (qM s) := by
  have F := fwdQ_I s
  refine ⟨fun st h => F.fwd st h, fun st h hb => ?_⟩
  unfold qM at hb
  simp at hb
  exact F.good st h hb.1
theorem agree_Is (s : ByteArray) : ∀ k, Agree (rIs s k) (qIs s k)
  | 0 => ⟨fun a x b h => (by cases h; rfl), fun a h => (by cases h), fun st h => h⟩
  | k + 1 => by
    have A := agree_I s
    have ih := agree_Is s k
    refine ⟨fun a x b h => ?_, fun a h => ?_, fun st h => ih.bad _ (A.bad _ h)⟩
    · obtain ⟨y, hy, h2⟩ := Option.bind_eq_some_iff.1 h
      obtain ⟨z, hz, h3⟩ := Option.map_eq_some_iff.1 h2
      cases h3
      unfold qIs
      rw [A.some _ _ _ hy]
      simp only
      rw [ih.some _ _ _ hz]
    · unfold rIs at h
      unfold qIs
      cases hy : rI s a with
      | none => exact ih.bad _ (A.none _ hy)
      | some y =>
        rw [hy] at h
        simp at h
        rw [A.some _ _ _ hy]
        exact ih.none _ h
theorem agree_L {α : Type} {f : Rd α} {q : Rq α} (A : Agree f q) : ∀ k, Agree (rL f k) (qL q k)
  | 0 => ⟨fun a x b h => (by cases h; rfl), fun a h => (by cases h), fun st h => h⟩
  | k + 1 => by
    have ih := agree_L A k
    refine ⟨fun a x b h => ?_, fun a h => ?_, fun st h => ?_⟩
    · obtain ⟨y, hy, h2⟩ := Option.bind_eq_some_iff.1 h
      obtain ⟨z, hz, h3⟩ := Option.map_eq_some_iff.1 h2
      cases h3
      simp only [qL, Bool.false_eq_true, if_false]
      rw [A.some _ _ _ hy]
      simp only
      rw [ih.some _ _ _ hz]
    · unfold rL at h
      simp only [qL, Bool.false_eq_true, if_false]
      cases hy : f a with
      | none => exact ih.bad _ (A.none _ hy)
      | some y =>
        rw [hy] at h
        simp at h
        rw [A.some _ _ _ hy]
        exact ih.none _ h
    · simp [qL, h]
theorem agree_Ls {α : Type} (s : ByteArray) {f : Rd α} {q : Rq α} (A : Agree f q) : Agree (rLs s f) (qLs s q) := by
  have I := agree_I s
  refine ⟨fun a x b h => ?_, fun a h => ?_, fun st h => ?_⟩
  · obtain ⟨y, hy, h2⟩ := Option.bind_eq_some_iff.1 h
    unfold rN at hy
    obtain ⟨z, hz, h3⟩ := Option.bind_eq_some_iff.1 hy
    split at h3
    · cases h3
    · rename_i hn
      cases h3
      unfold qLs qM
      rw [I.some _ _ _ hz]
      have : decide (y.1 < 0) = false := by simp; omega
      simp only [this, Bool.or_false]
      exact (agree_L A _).some _ _ _ h2
  · unfold rLs rN at h
    unfold qLs qM
    cases hz : rI s a with
    | none => exact (agree_L A _).bad _ (by simp [I.none _ hz])
    | some z =>
      rw [hz] at h
      rw [I.some _ _ _ hz]
      simp at h
      by_cases hn : z.1 < 0
      · exact (agree_L A _).bad _ (by simp [hn])
      · have : decide (z.1 < 0) = false := by simp; omega
        simp only [this, Bool.or_false]
        by_cases hm : 9223372036854775807 < z.1
        · have := rI_int (s := s) (a := a) (n := z.1) (nx := z.2) hz
          omega
        · exact (agree_L A _).none _ (h (by omega) (by omega))
  · exact (agree_L A _).bad _ (by simp [qM, I.bad _ h])
end Go.Proofs.YtjeigphhepngmaaGreatDoor

namespace Go.Proofs.YtjeigphhepngmaaGreatDoor

/-- The first error of the elements `k` .. of a list. -/
def firstE (f : Nat → Int) : Nat → Nat → Int
  | _, 0 => 0
  | k, c + 1 => if f k ≠ 0 then f k else firstE f (k + 1) c
theorem firstE_go {f : Nat → Int} {k n : Nat} (h : k < n) (h0 : f k = 0) : firstE f k (n - k) = firstE f (k + 1) (n - (k + 1)) := by
  obtain ⟨c, hc⟩ : ∃ c, n - k = c + 1 := ⟨n - k - 1, by omega⟩
  rw [hc, firstE, if_neg (by simp [h0]), show n - (k + 1) = c from by omega]
theorem firstE_stop {f : Nat → Int} {k n : Nat} (h : k < n) (h0 : f k ≠ 0) : firstE f k (n - k) = f k := by
  obtain ⟨c, hc⟩ : ∃ c, n - k = c + 1 := ⟨n - k - 1, by omega⟩
  rw [hc, firstE, if_pos h0]
theorem firstE_end {f : Nat → Int} {n : Nat} : firstE f n (n - n) = 0 := by rw [Nat.sub_self]; rfl
theorem firstE_zero {f : Nat → Int} : ∀ {c k : Nat}, firstE f k c = 0 → ∀ i, k ≤ i → i < k + c → f i = 0
  | 0, k, _, i, h1, h2 => by omega
  | c + 1, k, h, i, h1, h2 => by
    rw [firstE] at h
    split at h
    · rename_i hn; exact absurd h hn
    · rename_i hn
      by_cases e : i = k
      · subst e; exact Decidable.not_not.1 hn
      · exact firstE_zero h i (by omega) (by omega)

structure Tim where
  up : Int
  down : Int
  pos : Int
  col : Int
  beam : Int
  del : Int
deriving DecidableEq
structure Mv where
  ch : Int
  at_ : Int
  pal : Int
  lev : Int
  part : Int
deriving DecidableEq
structure CueD where
  num : ByteArray
  lab : ByteArray
  moves : List Mv
  parts : List Tim
  block : Bool
  mark : Bool
  follow : Int
  link : ByteArray
  loops : Int
deriving DecidableEq
def zCue : CueD := ⟨⟨#[]⟩, ⟨#[]⟩, [], [], false, false, 0, ⟨#[]⟩, 0⟩

def mvI (m : Mv) : List Int := [m.ch, m.at_, m.pal, m.lev, m.part]
def timI (t : Tim) : List Int := [t.up, t.down, t.pos, t.col, t.beam, t.del]
def mvB (m : Mv) : List UInt8 := intsB (mvI m)
def timB (t : Tim) : List UInt8 := intsB (timI t)
def cueB (c : CueD) : List UInt8 :=
  textB c.num ++ textB c.lab ++ intB c.moves.length ++ c.moves.flatMap mvB ++ intB c.parts.length ++ c.parts.flatMap timB ++ intB (truthI c.block) ++ intB (truthI c.mark) ++ intB c.follow ++ textB c.link ++ intB c.loops

/-! ### Right cues -/
def parE (ch at_ : Int) : Int := if ch < 1 ∨ 999 < ch ∨ at_ < 0 ∨ 15 ≤ at_ then 2 else 0
def valE (pal lev : Int) : Int := if (pal = 0 ∧ 0 ≤ lev ∧ lev ≤ 65535) ∨ (-1 ≤ pal ∧ pal ≠ 0 ∧ pal ≤ 1048576 ∧ lev = 0) then 0 else 2
def befP (c1 a1 c2 a2 : Int) : Bool := decide (c1 < c2 ∨ (c1 = c2 ∧ a1 < a2))
def mvE (p : Option Mv) (m : Mv) : Int :=
  if parE m.ch m.at_ ≠ 0 then 2 else if valE m.pal m.lev ≠ 0 then 2 else if m.part < 1 ∨ 4 < m.part then 2 else
    match p with
    | none => 0
    | some q => if befP q.ch q.at_ m.ch m.at_ then 0 else 9
/-- The element before. -/
def prevOf {α : Type} (l : List α) (k : Nat) : Option α := if k = 0 then none else l[k - 1]?
def mvAtE (l : List Mv) (k : Nat) : Int := match l[k]? with | none => 0 | some m => mvE (prevOf l k) m
def movesE (l : List Mv) : Int := if 128 < l.length then 5 else firstE (mvAtE l) 0 l.length
def okCh (b : UInt8) : Bool := decide (32 ≤ b.toNat ∧ b.toNat ≤ 126 ∧ b.toNat ≠ 34)
def labE (s : ByteArray) : Int := if 24 < s.size then 13 else if s.data.toList.all okCh then 0 else 3
def timeOk (v : Int) : Bool := decide (0 ≤ v ∧ v ≤ 10000000)
def timOk (t : Tim) : Bool := timeOk t.up && (timeOk t.down && (timeOk t.pos && (timeOk t.col && (timeOk t.beam && timeOk t.del))))
def ptsE (l : List Tim) : Int := if l.length = 0 then 12 else if 4 < l.length then 5 else if l.all timOk then 0 else 2
def nextE (c : CueD) : Int :=
  if c.follow ≠ -1 ∧ (c.follow < 25 ∨ 10000000 < c.follow) then 2 else if c.link.size ≠ 0 ∧ chk5 c.link.data.toList ≠ 0 then chk5 c.link.data.toList
  else if c.loops < 0 ∨ 100 < c.loops then 2 else if 0 < c.loops ∧ c.link.size = 0 then 11 else 0
def cueE (c : CueD) : Int :=
  if chk5 c.num.data.toList ≠ 0 then chk5 c.num.data.toList else if labE c.lab ≠ 0 then labE c.lab else if movesE c.moves ≠ 0 then movesE c.moves
  else if ptsE c.parts ≠ 0 then ptsE c.parts else if c.moves.any (fun m => decide ((c.parts.length : Int) < m.part)) then 6 else nextE c

/-! ### What is read -/
def mvOf : List Int → Mv
  | [a, b, c, d, e] => ⟨a, b, c, d, e⟩
  | _ => ⟨0, 0, 0, 0, 0⟩
def timOf : List Int → Tim
  | [a, b, c, d, e, f] => ⟨a, b, c, d, e, f⟩
  | _ => ⟨0, 0, 0, 0, 0, 0⟩
/-- What is read, seen otherwise. -/
def rMap {α β : Type} (g : α → β) (f : Rd α) : Rd β := fun a => (f a).map fun x => (g x.1, x.2)
def qMap {α β : Type} (g : α → β) (q : Rq α) : Rq β := fun st => (g (q st).1, (q st).2)
theorem agree_map {α β : Type} (g : α → β) {f : Rd α} {q : Rq α} (A : Agree f q) : Agree (rMap g f) (qMap g q) := by
  refine ⟨fun a x b h => ?_, fun a h => ?_, fun st h => A.bad st h⟩
  · obtain ⟨y, hy, h2⟩ := Option.map_eq_some_iff.1 h
    cases h2
    simp [qMap, A.some _ _ _ hy]
  · exact A.none _ (Option.map_eq_none_iff.1 h)
theorem fwd_map {α β : Type} {s : ByteArray} (g : α → β) {f : Rd α} (F : Fwd s f) : Fwd s (rMap g f) := fun a x b h ha => by
  obtain ⟨y, hy, h2⟩ := Option.map_eq_some_iff.1 h
  cases h2
  exact F _ _ _ hy ha
theorem fwdQ_map {α β : Type} {s : ByteArray} (g : α → β) {q : Rq α} (F : FwdQ s q) : FwdQ s (qMap g q) := ⟨F.fwd, F.good⟩
/-- One reader behind another one. -/
def rThen {α β : Type} (f : Rd α) (g : Rd β) : Rd (α × β) := fun a => (f a).bind fun x => (g x.2).map fun y => ((x.1, y.1), y.2)
def qThen {α β : Type} (f : Rq α) (g : Rq β) : Rq (α × β) := fun st => (((f st).1, (g (f st).2).1), (g (f st).2).2)
theorem agree_then {α β : Type} {f : Rd α} {q : Rq α} {g : Rd β} {r : Rq β} (A : Agree f q) (C : Agree g r) : Agree (rThen f g) (qThen q r) := by
  refine ⟨fun a x b h => ?_, fun a h => ?_, fun st h => C.bad _ (A.bad st h)⟩
  · obtain ⟨y, hy, h2⟩ := Option.bind_eq_some_iff.1 h
    obtain ⟨z, hz, h3⟩ := Option.map_eq_some_iff.1 h2
    cases h3
    simp [qThen, A.some _ _ _ hy, C.some _ _ _ hz]
  · unfold rThen at h
    unfold qThen
    cases hy : f a with
    | none => exact C.bad _ (A.none _ hy)
    | some y =>
      rw [hy] at h
      simp at h
      rw [A.some _ _ _ hy]
      exact C.none _ h
theorem fwd_then {α β : Type} {s : ByteArray} {f : Rd α} {g : Rd β} (F : Fwd s f) (G : Fwd0 s g) : Fwd s (rThen f g) := fun a x b h ha => by
  obtain ⟨y, hy, h2⟩ := Option.bind_eq_some_iff.1 h
  obtain ⟨z, hz, h3⟩ := Option.map_eq_some_iff.1 h2
  cases h3
  have h4 := F _ _ _ hy ha
  have h5 := G _ _ _ hz h4.2
  omega
theorem fwdQ_then {α β : Type} {s : ByteArray} {f : Rq α} {g : Rq β} (F : FwdQ s f) (G : FwdQ s g) : FwdQ s (qThen f g) := by
  refine ⟨fun st h => ?_, fun st h hb => ?_⟩
  · have h1 := F.fwd st h
    have h2 := G.fwd _ h1.2
    unfold qThen
    simp only
    omega
  · have h1 := F.fwd st h
    have h2 := G.good _ h1.2 hb
    have h3 := F.good _ h h2.1
    unfold qThen
    simp only
    exact ⟨h3.1, by omega⟩
theorem fwdQ_Is (s : ByteArray) : ∀ k, FwdQ s (qIs s (k + 1))
  | 0 => ⟨(fwdQ_I s).fwd, (fwdQ_I s).good⟩
  | k + 1 => by
    have F := fwdQ_I s
    have G := fwdQ_Is s k
    refine ⟨fun st h => ?_, fun st h hb => ?_⟩
    · have h1 := F.fwd st h
      have h2 := G.fwd _ h1.2
      unfold qIs
      simp only
      omega
    · have h1 := F.fwd st h
      have h2 := G.good _ h1.2 hb
      have h3 := F.good _ h h2.1
      unfold qIs
      simp only
      exact ⟨h3.1, by omega⟩
theorem fwd_rIs1 (s : ByteArray) (k : Nat) : Fwd s (rIs s (k + 1)) := fun a x b h ha => by
  obtain ⟨y, hy, h2⟩ := Option.bind_eq_some_iff.1 h
  obtain ⟨z, hz, h3⟩ := Option.map_eq_some_iff.1 h2
  cases h3
  have h4 := fwd_rI s _ _ _ hy ha
  have h5 := fwd_rIs s k _ _ _ hz h4.2
  omega

def rMv (s : ByteArray) : Rd Mv := rMap mvOf (rIs s 5)
def qMv (s : ByteArray) : Rq Mv := qMap mvOf (qIs s 5)
def rTim (s : ByteArray) : Rd Tim := rMap timOf (rIs s 6)
def qTim (s : ByteArray) : Rq Tim := qMap timOf (qIs s 6)
theorem fwdQ_L {α : Type} {s : ByteArray} {q : Rq α} (F : FwdQ s q) : ∀ k st, st.at_ ≤ s.size → st.at_ ≤ (qL q k st).2.at_ ∧ (qL q k st).2.at_ ≤ s.size ∧ ((qL q k st).2.bad = false → st.bad = false)
  | 0, st, h => ⟨Nat.le_refl _, h, fun hb => hb⟩
  | k + 1, st, h => by
    unfold qL
    cases hb : st.bad with
    | true => simp [h, hb]
    | false =>
      simp only [Bool.false_eq_true, if_false]
      have h1 := F.fwd st h
      have h2 := fwdQ_L F k _ h1.2
      exact ⟨by omega, h2.2.1, fun _ => trivial⟩
theorem fwdQ_Ls {α : Type} {s : ByteArray} {q : Rq α} (F : FwdQ s q) : FwdQ s (qLs s q) := by
  have M := fwdQ_M s
  refine ⟨fun st h => ?_, fun st h hb => ?_⟩
  · have h1 := M.fwd st h
    have h2 := fwdQ_L F (qM s st).1.toNat _ h1.2
    unfold qLs
    omega
  · have h1 := M.fwd st h
    have h2 := fwdQ_L F (qM s st).1.toNat _ h1.2
    have h3 := M.good _ h (h2.2.2 hb)
    unfold qLs
    exact ⟨h3.1, by omega⟩

abbrev Cue9 := ByteArray × ByteArray × List Mv × List Tim × Bool × Bool × Int × ByteArray × Int
def cueOf (x : Cue9) : CueD := ⟨x.1, x.2.1, x.2.2.1, x.2.2.2.1, x.2.2.2.2.1, x.2.2.2.2.2.1, x.2.2.2.2.2.2.1, x.2.2.2.2.2.2.2.1, x.2.2.2.2.2.2.2.2⟩
def rCue9 (s : ByteArray) : Rd Cue9 := rThen (rT s) (rThen (rT s) (rThen (rLs s (rMv s)) (rThen (rLs s (rTim s)) (rThen (rB s) (rThen (rB s) (rThen (rI s) (rThen (rT s) (rI s))))))))
def qCue9 (s : ByteArray) : Rq Cue9 := qThen (qT s) (qThen (qT s) (qThen (qLs s (qMv s)) (qThen (qLs s (qTim s)) (qThen (qB s) (qThen (qB s) (qThen (qI s) (qThen (qT s) (qI s))))))))
def rCue (s : ByteArray) : Rd CueD := rMap cueOf (rCue9 s)
def qCue (s : ByteArray) : Rq CueD := qMap cueOf (qCue9 s)
theorem agree_Cue (s : ByteArray) : Agree (rCue s) (qCue s) :=
  agree_map _ (agree_then (agree_T s) (agree_then (agree_T s) (agree_then (agree_Ls s (agree_map _ (agree_Is s 5))) (agree_then (agree_Ls s (agree_map _ (agree_Is s 6))) (agree_then (agree_B s) (agree_then (agree_B s) (agree_then (agree_I s) (agree_then (agree_T s) (agree_I s)))))))))
theorem fwd_Mv (s : ByteArray) : Fwd s (rMv s) := fwd_map _ (fwd_rIs1 s 4)
theorem fwd_Tim (s : ByteArray) : Fwd s (rTim s) := fwd_map _ (fwd_rIs1 s 5)
theorem fwdQ_Mv (s : ByteArray) : FwdQ s (qMv s) := fwdQ_map _ (fwdQ_Is s 4)
theorem fwdQ_Tim (s : ByteArray) : FwdQ s (qTim s) := fwdQ_map _ (fwdQ_Is s 5)
theorem fwd_Cue (s : ByteArray) : Fwd s (rCue s) :=
  fwd_map _ (fwd_then (fwd_rT s) (fwd_then (fwd_rT s) (fwd_then (fwd_rLs (fwd_Mv s)) (fwd_then (fwd_rLs (fwd_Tim s)) (fwd_then (fwd_rB s) (fwd_then (fwd_rB s) (fwd_then (fwd_rI s) (fwd_then (fwd_rT s) (fwd_rI s).zero).zero).zero).zero).zero).zero).zero).zero)
theorem fwdQ_Cue (s : ByteArray) : FwdQ s (qCue s) :=
  fwdQ_map _ (fwdQ_then (fwdQ_T s) (fwdQ_then (fwdQ_T s) (fwdQ_then (fwdQ_Ls (fwdQ_Mv s)) (fwdQ_then (fwdQ_Ls (fwdQ_Tim s)) (fwdQ_then (fwdQ_B s) (fwdQ_then (fwdQ_B s) (fwdQ_then (fwdQ_I s) (fwdQ_then (fwdQ_T s) (fwdQ_I s)))))))))

/-- What both sides say of the data of a cue. -/
def getCueD (s : ByteArray) : CueD × Int :=
  match rCue s 0 with
  | none => (zCue, 3)
  | some (c, a) => if a ≠ s.size then (zCue, 3) else if cueE c ≠ 0 then (zCue, cueE c) else (c, 0)
theorem getCueD_q (s : ByteArray) : getCueD s = if (qCue s ⟨0, false⟩).2.bad = true ∨ (qCue s ⟨0, false⟩).2.at_ ≠ s.size then (zCue, 3) else if cueE (qCue s ⟨0, false⟩).1 ≠ 0 then (zCue, cueE (qCue s ⟨0, false⟩).1) else ((qCue s ⟨0, false⟩).1, 0) := by
  have A := agree_Cue s
  unfold getCueD
  cases h : rCue s 0 with
  | none => rw [if_pos (.inl (A.none _ h))]
  | some x =>
    rw [A.some _ _ _ h]
    simp
end Go.Proofs.YtjeigphhepngmaaGreatDoor
