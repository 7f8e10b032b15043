/- -/
import Derived.WalkKit
import Derived.Lib.AtoiAll
import Derived.Lib.ItoaNum
import Derived.Lib.TrimByte
import Derived.Lib.IndexMore
namespace Go.Proofs.YtjeigphhepngmaaGreatDoor
open Go.Lib
set_option maxHeartbeats 8000000
set_option maxRecDepth 100000
def isDig (b : UInt8) : Bool := decide (48 ≤ b.toNat) && decide (b.toNat ≤ 57)
def digs (l : List UInt8) : Bool := l.all isDig && !l.isEmpty
def dval (l : List UInt8) : Nat := l.foldl (fun n b => 10 * n + (b.toNat - 48)) 0
def wholeOf : List UInt8 → List UInt8
 | [] => []
 | b :: l => if b = 46 then [] else b :: wholeOf l
def restOf : List UInt8 → List UInt8
 | [] => []
 | b :: l => if b = 46 then l else restOf l
def hasPt : List UInt8 → Bool
 | [] => false
 | b :: l => if b = 46 then true else hasPt l
def formE (w r : List UInt8) (p : Bool) : Bool :=
 digs w && ((!p || (digs r && r.getLast? != some 48)) && (w.length == 1 || w.head? != some 48))
def chk5 (l : List UInt8) : Int :=
 if formE (wholeOf l) (restOf l) (hasPt l) = false then 3
 else if l = [48] ∨ 4 < (wholeOf l).length ∨ 3 < (restOf l).length then 2 else 0
def val5 (l : List UInt8) : Nat := dval (wholeOf l ++ (restOf l ++ [48, 48, 48]).take 3)
def thou5 (l : List UInt8) : Int × Int := if chk5 l = 0 then ((val5 l : Int), 0) else (0, chk5 l)
def three (m : Nat) : List UInt8 := [UInt8.ofNat (48 + m / 100), UInt8.ofNat (48 + m / 10 % 10), UInt8.ofNat (48 + m % 10)]
def named (n : Nat) : List UInt8 := decDigits (n / 1000) ++ (if n % 1000 = 0 then [] else 46 :: trimRightB (three (n % 1000)) 48)
def ord5 (x y : Int) : Int := if x < y then -1 else if y < x then 1 else 0
def cmp5 (a b : List UInt8) : Int × Int :=
 if chk5 a = 0 then (if chk5 b = 0 then (ord5 (val5 a) (val5 b), 0) else (0, chk5 b)) else (0, chk5 a)
theorem zen : ∀ l : List UInt8, (hasPt l = true ∧ index l [46] = (wholeOf l).length ∧ l = wholeOf l ++ 46 :: restOf l) ∨ (hasPt l = false ∧ index l [46] = -1 ∧ wholeOf l = l ∧ restOf l = [])
 | [] => Or.inr ⟨rfl, rfl, rfl, rfl⟩
 | b :: l => by
   by_cases hb : b = 46
   · subst hb
     exact Or.inl ⟨rfl, by unfold index; simp [wholeOf], by simp [wholeOf, restOf]⟩
   have hp : ([46] : List UInt8).isPrefixOf (b :: l) = false := by
     show ((46 : UInt8) == b && List.isPrefixOf [] l) = false
     rw [beq_eq_false_iff_ne.2 (fun h => hb h.symm), Bool.false_and]
   rcases zen l with ⟨h1, h2, h3⟩ | ⟨h1, h2, h3, h4⟩
   · refine Or.inl ⟨by simp [hasPt, hb, h1], ?_, ?_⟩
     · unfold index
       rw [hp, h2]
       have : (((wholeOf l).length : Int) == -1) = false := by rw [beq_eq_false_iff_ne]; omega
       simp [this, wholeOf, hb]
     simp only [wholeOf, restOf, hb, if_false]
     rw [List.cons_append, ← h3]
   refine Or.inr ⟨by simp [hasPt, hb, h1], ?_, by simp [wholeOf, hb, h3], by simp [restOf, hb, h4]⟩
   unfold index
   rw [hp, h2]
   simp
theorem zn7 (l : List UInt8) (n : Nat) : l.foldl (fun n b => 10 * n + (b.toNat - 48)) n = n * 10 ^ l.length + dval l := by
 induction l generalizing n with
 | nil => simp [dval]
 | cons b l ih =>
   unfold dval
   rw [List.foldl_cons, List.foldl_cons, ih, ih (10 * 0 + _), List.length_cons, Nat.pow_succ]
   grind
theorem zhm (b : UInt8) (l : List UInt8) : dval (b :: l) = (b.toNat - 48) * 10 ^ l.length + dval l := by
 rw [dval, List.foldl_cons, zn7]
 simp
theorem zfm (b : UInt8) (l : List UInt8) : dval (l ++ [b]) = 10 * dval l + (b.toNat - 48) := by simp [dval]
theorem zex {b : UInt8} (h : isDig b = true) : 48 ≤ b.toNat ∧ b.toNat ≤ 57 := by simpa [isDig] using h
theorem zd5 : ∀ l : List UInt8, l.all isDig = true → dval l < 10 ^ l.length
 | [], _ => by simp [dval]
 | b :: l, h => by
   rw [List.all_cons, Bool.and_eq_true] at h
   have := zex h.1
   have := zd5 l h.2
   rw [zhm, List.length_cons, Nat.pow_succ]
   have h9 : (b.toNat - 48) * 10 ^ l.length ≤ 9 * 10 ^ l.length := Nat.mul_le_mul_right _ (by omega)
   omega
theorem zi9 : ∀ (l : List UInt8) (acc c : Nat), l.all isDig = true → l.length + c ≤ 18 → acc < 10 ^ c → parseUint10 acc l = .ok (acc * 10 ^ l.length + dval l)
 | [], acc, c, _, _, _ => by simp [parseUint10, dval]
 | b :: l, acc, c, h, hl, ha => by
   rw [List.all_cons, Bool.and_eq_true] at h
   have hb := zex h.1
   rw [List.length_cons] at hl
   have h18 : 10 ^ (c + 1) ≤ 10 ^ 18 := Nat.pow_le_pow_right (by decide) (by omega)
   rw [show (10 : Nat) ^ 18 = 1000000000000000000 from by decide] at h18
   rw [Nat.pow_succ] at h18
   rw [parseUint10, if_pos hb, if_neg (by omega), if_neg (by omega), zi9 l _ (c + 1) h.2 (by omega) (by rw [Nat.pow_succ]; omega), zhm, List.length_cons, Nat.pow_succ]
   congr 1
   grind
theorem zsb (l : List UInt8) (h : digs l = true) (hl : l.length ≤ 18) : atoiAll l = .ok (dval l : Int) := by
 unfold digs at h
 rw [Bool.and_eq_true] at h
 cases l with
 | nil => simp at h
 | cons b l =>
   have hb := h.1
   rw [List.all_cons, Bool.and_eq_true] at hb
   have hb1 := zex hb.1
   have hp := zi9 (b :: l) 0 0 h.1 (by simpa using hl) (by simp)
   rw [Nat.zero_mul, Nat.zero_add] at hp
   have hlt := zd5 (b :: l) h.1
   have h18 : 10 ^ (b :: l).length ≤ 10 ^ 18 := Nat.pow_le_pow_right (by decide) hl
   rw [show (10 : Nat) ^ 18 = 1000000000000000000 from by decide] at h18
   simp only [atoiAll]
   rw [if_neg (by omega), parseMag, if_neg (by simp), hp]
   simp only
   rw [if_neg (by omega), if_neg (by omega), if_neg (by omega)]
theorem zcq {p : UInt8 → Bool} : ∀ (l : List UInt8) (n : Nat), l.all p = true → (l.take n).all p = true := fun l n h => by
 rw [List.all_eq_true] at h ⊢
 exact fun x hx => h x (List.mem_of_mem_take hx)
theorem zm2 {l : List UInt8} (h : l.all isDig = true) (h0 : l ≠ []) : digs l = true := by
 unfold digs
 rw [h]
 cases l with
 | nil => exact absurd rfl h0
 | cons b l => rfl
theorem zdu {l : List UInt8} (h : chk5 l = 0) : digs (wholeOf l) = true ∧ (wholeOf l).length ≤ 4 ∧ (restOf l).all isDig = true ∧ (restOf l).length ≤ 3 := by
 unfold chk5 formE at h
 split at h
 · exact absurd h (by decide)
 split at h
 · exact absurd h (by decide)
 rename_i h1 h2
 simp only [Bool.not_eq_false, Bool.and_eq_true] at h1
 refine ⟨h1.1, by omega, ?_, by omega⟩
 rcases zen l with ⟨e1, e2, e3⟩ | ⟨e1, e2, e3, e4⟩
 · rw [e1] at h1
   simp [digs] at h1
   simpa using h1.2.1.1.1
 rw [e4]; rfl
theorem zq0 {l : List UInt8} (h : chk5 l = 0) : atoiAll (wholeOf l ++ (restOf l ++ [48, 48, 48]).take 3) = .ok (val5 l : Int) := by
 obtain ⟨h1, h2, h3, h4⟩ := zdu h
 unfold digs at h1
 rw [Bool.and_eq_true] at h1
 have ht : ((restOf l ++ [48, 48, 48]).take 3).all isDig = true := zcq _ _ (by rw [List.all_append, h3]; rfl)
 have hl : ((restOf l ++ [48, 48, 48]).take 3).length = 3 := by simp
 refine zsb _ (zm2 (by rw [List.all_append, h1.1, ht]; rfl) ?_) ?_
 · intro e
   have := congrArg List.length e
   rw [List.length_append, hl] at this
   simp at this
 rw [List.length_append, hl]
 omega
end Go.Proofs.YtjeigphhepngmaaGreatDoor
