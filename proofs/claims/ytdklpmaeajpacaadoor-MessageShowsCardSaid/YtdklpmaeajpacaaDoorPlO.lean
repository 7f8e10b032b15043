/-
  Plain laws on what a wire shows: bytes laid over each other, bit by bit.
-/
import Derived.Test.YtdklpmaeajpacaaDoorMath
namespace Go.Proofs.YtdklpmaeajpacaaDoor

/-- Two texts over each other. -/
def orL : List UInt8 → List UInt8 → List UInt8
  | [], b => b
  | a, [] => a
  | x :: a, y :: b => (x ||| y) :: orL a b

theorem orL_nil (a : List UInt8) : orL a [] = a := by cases a <;> rfl
theorem orL_nil_left (a : List UInt8) : orL [] a = a := by rw [orL]

theorem orL_length (a b : List UInt8) : (orL a b).length = max a.length b.length := by
  induction a generalizing b with
  | nil => rw [orL_nil_left]; simp
  | cons x a ih =>
    cases b with
    | nil => rw [orL_nil]; simp
    | cons y b => rw [orL, List.length_cons, ih, List.length_cons, List.length_cons]; omega

theorem orL_getD (a b : List UInt8) (i : Nat) : (orL a b).getD i 0 = a.getD i 0 ||| b.getD i 0 := by
  induction a generalizing b i with
  | nil => rw [orL_nil_left]; simp
  | cons x a ih =>
    cases b with
    | nil => rw [orL_nil]; simp
    | cons y b =>
      rw [orL]
      cases i with
      | zero => simp
      | succ i => simpa using ih b i

theorem ext_getD {a b : List UInt8} (hl : a.length = b.length) (h : ∀ i, a.getD i 0 = b.getD i 0) : a = b := by
  apply List.ext_getElem hl
  intro i h1 h2
  have := h i
  rw [List.getD_eq_getElem?_getD, List.getD_eq_getElem?_getD, List.getElem?_eq_getElem h1, List.getElem?_eq_getElem h2] at this
  exact this

theorem or_comm8 (x y : UInt8) : x ||| y = y ||| x := UInt8.or_comm x y
theorem or_assoc8 (x y z : UInt8) : (x ||| y) ||| z = x ||| (y ||| z) := UInt8.or_assoc x y z

theorem orL_comm (a b : List UInt8) : orL a b = orL b a := by
  apply ext_getD
  · rw [orL_length, orL_length, Nat.max_comm]
  · intro i
    rw [orL_getD, orL_getD, or_comm8]
theorem orL_assoc (a b c : List UInt8) : orL (orL a b) c = orL a (orL b c) := by
  apply ext_getD
  · rw [orL_length, orL_length, orL_length, orL_length, Nat.max_assoc]
  · intro i
    rw [orL_getD, orL_getD, orL_getD, orL_getD, or_assoc8]

/-- All texts over each other. -/
def overL (l : List (List UInt8)) : List UInt8 := l.foldl orL []

theorem overL_from (l : List (List UInt8)) (a : List UInt8) : l.foldl orL a = orL a (overL l) := by
  induction l generalizing a with
  | nil => rw [overL, List.foldl_nil, List.foldl_nil, orL_nil]
  | cons b l ih =>
    rw [List.foldl_cons, ih]
    show orL (orL a b) (overL l) = orL a ((b :: l).foldl orL [])
    rw [List.foldl_cons, ih, orL_nil_left, orL_assoc]
theorem overL_nil : overL [] = [] := rfl
theorem overL_cons (b : List UInt8) (l : List (List UInt8)) : overL (b :: l) = orL b (overL l) := by
  rw [overL, List.foldl_cons, overL_from, orL_nil_left]
theorem overL_snoc (l : List (List UInt8)) (b : List UInt8) : overL (l ++ [b]) = orL (overL l) b := by
  rw [overL, List.foldl_append]; rfl
theorem overL_append (l m : List (List UInt8)) : overL (l ++ m) = orL (overL l) (overL m) := by
  rw [overL, List.foldl_append, overL_from]; rfl
theorem overL_reverse (l : List (List UInt8)) : overL l.reverse = overL l := by
  induction l with
  | nil => rfl
  | cons b l ih => rw [List.reverse_cons, overL_snoc, ih, overL_cons, orL_comm]

theorem overL_length_le (l : List (List UInt8)) (n : Nat) (h : ∀ s ∈ l, s.length ≤ n) : (overL l).length ≤ n := by
  induction l with
  | nil => exact Nat.zero_le _
  | cons b l ih =>
    rw [overL_cons, orL_length]
    have h1 := h b (by simp)
    have h2 := ih fun s hs => h s (by simp [hs])
    omega
theorem overL_length_ge (l : List (List UInt8)) (s : List UInt8) (h : s ∈ l) : s.length ≤ (overL l).length := by
  induction l with
  | nil => cases h
  | cons b l ih =>
    rw [overL_cons, orL_length]
    rcases List.mem_cons.1 h with rfl | h
    · omega
    · have := ih h
      omega

/-- One step further into a text. -/
theorem orL_step (a s : List UInt8) (k : Nat) (h : k < s.length) : orL a (s.take (k + 1)) = (if k < (orL a (s.take k)).length then orL a (s.take k) else orL a (s.take k) ++ [0]).set k ((orL a (s.take k)).getD k 0 ||| s[k]) := by
  apply ext_getD
  · rw [List.length_set, orL_length, List.length_take, orL_length, List.length_take]
    split
    · rw [orL_length, List.length_take]; omega
    · rw [List.length_append, orL_length, List.length_take]; simp; omega
  · intro i
    have ht : (s.take (k + 1)).getD i 0 = if i = k then s[k] else (s.take k).getD i 0 := by
      rw [List.getD_eq_getElem?_getD, List.getD_eq_getElem?_getD, List.getElem?_take, List.getElem?_take]
      by_cases hi : i = k
      · subst hi
        rw [if_pos (by omega), if_pos rfl, List.getElem?_eq_getElem h]; rfl
      · rw [if_neg hi]
        by_cases hik : i < k
        · rw [if_pos (by omega), if_pos hik]
        · rw [if_neg (by omega), if_neg hik]
    rw [orL_getD, ht]
    rw [List.getD_eq_getElem?_getD (l := List.set _ _ _), List.getElem?_set]
    have hlk : (orL a (s.take k)).length = max a.length k := by rw [orL_length, List.length_take]; omega
    by_cases hi : k = i
    · subst hi
      have hl2 : k < (if k < (orL a (s.take k)).length then orL a (s.take k) else orL a (s.take k) ++ [0]).length := by
        split
        · assumption
        · rw [List.length_append, hlk]; simp; omega
      rw [if_pos rfl, if_pos rfl, if_pos hl2, orL_getD]
      have h0 : (s.take k).getD k 0 = 0 := by
        rw [List.getD_eq_getElem?_getD, List.getElem?_eq_none (by rw [List.length_take]; omega)]; rfl
      rw [h0]
      simp
    · rw [if_neg hi, if_neg (fun e => hi e.symm), ← orL_getD, ← List.getD_eq_getElem?_getD]
      split
      · rfl
      · rw [List.getD_eq_getElem?_getD, List.getD_eq_getElem?_getD, List.getElem?_append]
        split
        · rfl
        · rename_i hnl hn2
          rw [List.getElem?_eq_none (by omega : (orL a (s.take k)).length ≤ i), List.getElem?_singleton]
          split <;> rfl

end Go.Proofs.YtdklpmaeajpacaaDoor
