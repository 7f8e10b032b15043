/-
  Plain laws on what a wire shows: bytes laid over each other, bit by bit.
  Plain laws on the bytes of messages: sums, what is encoded, what is decoded.
  The sums of bytes, and the reference's bytes.
  Plain laws that join the bytes of a text to what is decoded of them.
-/
import Derived.Test.YtpkhcehddfmhpaaGreatIds
import Derived.Test.YtpkhcehddfmhpaaGreatRecv
import Derived.Test.YtpkhcehddfmhpaaGreatBas
import Derived.Outline
namespace Go.Proofs.YtpkhcehddfmhpaaGreat

/-- Two texts over each other. -/
def orL : List UInt8 → List UInt8 → List UInt8
  | [], b => b
  | a, [] => a
  | x :: a, y :: b => (x ||| y) :: orL a b

theorem orL_nil (a : List UInt8) : orL a [] = a := by cases a <;> rfl
theorem orL_nil_left (a : List UInt8) : orL [] a = a := by rw [orL]

theorem orL_length (a b : List UInt8) : (orL a b).length = max a.length b.length := by
  induction a generalizing b with
  | nil => rw [orL_nil_left]; simp
  | cons x a ih =>
    cases b with
    | nil => rw [orL_nil]; simp
    | cons y b => rw [orL, List.length_cons, ih, List.length_cons, List.length_cons]; omega

theorem orL_getD (a b : List UInt8) (i : Nat) : (orL a b).getD i 0 = a.getD i 0 ||| b.getD i 0 := by
  induction a generalizing b i with
  | nil => rw [orL_nil_left]; simp
  | cons x a ih =>
    cases b with
    | nil => rw [orL_nil]; simp
    | cons y b =>
      rw [orL]
      cases i with
      | zero => simp
      | succ i => simpa using ih b i

theorem ext_getD {a b : List UInt8} (hl : a.length = b.length) (h : ∀ i, a.getD i 0 = b.getD i 0) : a = b := by
  apply List.ext_getElem hl
  intro i h1 h2
  have := h i
  rw [List.getD_eq_getElem?_getD, List.getD_eq_getElem?_getD, List.getElem?_eq_getElem h1, List.getElem?_eq_getElem h2] at this
  exact this

theorem or_comm8 (x y : UInt8) : x ||| y = y ||| x := UInt8.or_comm x y
theorem or_assoc8 (x y z : UInt8) : (x ||| y) ||| z = x ||| (y ||| z) := UInt8.or_assoc x y z

theorem orL_comm (a b : List UInt8) : orL a b = orL b a := by
  apply ext_getD
  · rw [orL_length, orL_length, Nat.max_comm]
  · intro i
    rw [orL_getD, orL_getD, or_comm8]
theorem orL_assoc (a b c : List UInt8) : orL (orL a b) c = orL a (orL b c) := by
  apply ext_getD
  · rw [orL_length, orL_length, orL_length, orL_length, Nat.max_assoc]
  · intro i
    rw [orL_getD, orL_getD, orL_getD, orL_getD, or_assoc8]

/-- All texts over each other. -/
def overL (l : List (List UInt8)) : List UInt8 := l.foldl orL []

theorem overL_from (l : List (List UInt8)) (a : List UInt8) : l.foldl orL a = orL a (overL l) := by
  induction l generalizing a with
  | nil => rw [overL, List.foldl_nil, List.foldl_nil, orL_nil]
  | cons b l ih =>
    rw [List.foldl_cons, ih]
    show orL (orL a b) (overL l) = orL a ((b :: l).foldl orL [])
    rw [List.foldl_cons, ih, orL_nil_left, orL_assoc]
theorem overL_nil : overL [] = [] := rfl
theorem overL_cons (b : List UInt8) (l : List (List UInt8)) : overL (b :: l) = orL b (overL l) := by
  rw [overL, List.foldl_cons, overL_from, orL_nil_left]
theorem overL_snoc (l : List (List UInt8)) (b : List UInt8) : overL (l ++ [b]) = orL (overL l) b := by
  rw [overL, List.foldl_append]; rfl
theorem overL_append (l m : List (List UInt8)) : overL (l ++ m) = orL (overL l) (overL m) := by
  rw [overL, List.foldl_append, overL_from]; rfl
theorem overL_reverse (l : List (List UInt8)) : overL l.reverse = overL l := by
  induction l with
  | nil => rfl
  | cons b l ih => rw [List.reverse_cons, overL_snoc, ih, overL_cons, orL_comm]

theorem overL_length_le (l : List (List UInt8)) (n : Nat) (h : ∀ s ∈ l, s.length ≤ n) : (overL l).length ≤ n := by
  induction l with
  | nil => exact Nat.zero_le _
  | cons b l ih =>
    rw [overL_cons, orL_length]
    have h1 := h b (by simp)
    have h2 := ih fun s hs => h s (by simp [hs])
    omega
theorem overL_length_ge (l : List (List UInt8)) (s : List UInt8) (h : s ∈ l) : s.length ≤ (overL l).length := by
  induction l with
  | nil => cases h
  | cons b l ih =>
    rw [overL_cons, orL_length]
    rcases List.mem_cons.1 h with rfl | h
    · omega
    · have := ih h
      omega

/-- One step further into a text. -/
theorem orL_step (a s : List UInt8) (k : Nat) (h : k < s.length) : orL a (s.take (k + 1)) = (if k < (orL a (s.take k)).length then orL a (s.take k) else orL a (s.take k) ++ [0]).set k ((orL a (s.take k)).getD k 0 ||| s[k]) := by
  apply ext_getD
  · rw [List.length_set, orL_length, List.length_take, orL_length, List.length_take]
    split
    · rw [orL_length, List.length_take]; omega
    · rw [List.length_append, orL_length, List.length_take]; simp; omega
  · intro i
    have ht : (s.take (k + 1)).getD i 0 = if i = k then s[k] else (s.take k).getD i 0 := by
      rw [List.getD_eq_getElem?_getD, List.getD_eq_getElem?_getD, List.getElem?_take, List.getElem?_take]
      by_cases hi : i = k
      · subst hi
        rw [if_pos (by omega), if_pos rfl, List.getElem?_eq_getElem h]; rfl
      · rw [if_neg hi]
        by_cases hik : i < k
        · rw [if_pos (by omega), if_pos hik]
        · rw [if_neg (by omega), if_neg hik]
    rw [orL_getD, ht]
    rw [List.getD_eq_getElem?_getD (l := List.set _ _ _), List.getElem?_set]
    have hlk : (orL a (s.take k)).length = max a.length k := by rw [orL_length, List.length_take]; omega
    by_cases hi : k = i
    · subst hi
      have hl2 : k < (if k < (orL a (s.take k)).length then orL a (s.take k) else orL a (s.take k) ++ [0]).length := by
        split
        · assumption
        · rw [List.length_append, hlk]; simp; omega
      rw [if_pos rfl, if_pos rfl, if_pos hl2, orL_getD]
      have h0 : (s.take k).getD k 0 = 0 := by
        rw [List.getD_eq_getElem?_getD, List.getElem?_eq_none (by rw [List.length_take]; omega)]; rfl
      rw [h0]
      simp
    · rw [if_neg hi, if_neg (fun e => hi e.symm), ← orL_getD, ← List.getD_eq_getElem?_getD]
      split
      · rfl
      · rw [List.getD_eq_getElem?_getD, List.getD_eq_getElem?_getD, List.getElem?_append]
        split
        · rfl
        · rename_i hnl hn2
          rw [List.getElem?_eq_none (by omega : (orL a (s.take k)).length ≤ i), List.getElem?_singleton]
          split <;> rfl

end Go.Proofs.YtpkhcehddfmhpaaGreat

namespace Go.Proofs.YtpkhcehddfmhpaaGreat

/-- The sum of bytes. -/
def sumN (l : List UInt8) : Nat := l.foldl (fun a b => a + b.toNat) 0

theorem sumN_from (l : List UInt8) (a : Nat) : l.foldl (fun a b => a + b.toNat) a = a + sumN l := by
  induction l generalizing a with
  | nil => rfl
  | cons b l ih =>
    rw [List.foldl_cons, ih]
    show _ = a + (b :: l).foldl (fun a b => a + b.toNat) 0
    rw [List.foldl_cons, ih]
    omega
theorem sumN_nil : sumN [] = 0 := rfl
theorem sumN_cons (b : UInt8) (l : List UInt8) : sumN (b :: l) = b.toNat + sumN l := by rw [sumN, List.foldl_cons, sumN_from]; omega
theorem sumN_append (l m : List UInt8) : sumN (l ++ m) = sumN l + sumN m := by rw [sumN, List.foldl_append, sumN_from]; rfl
theorem sumN_le (l : List UInt8) : sumN l ≤ 255 * l.length := by
  induction l with
  | nil => exact Nat.le_refl _
  | cons b l ih =>
    rw [sumN_cons, List.length_cons]
    have := b.toNat_lt
    omega

theorem bytesOf_two (n : Nat) : bytesOf n 2 = [UInt8.ofNat (n / 256), UInt8.ofNat n] := rfl
theorem bytesOf_one (n : Nat) : bytesOf n 1 = [UInt8.ofNat n] := rfl
theorem ofNat_mod (n : Nat) : UInt8.ofNat (n % 256) = UInt8.ofNat n := by
  apply UInt8.toNat_inj.1
  simp
theorem bytesOf_mod (n : Nat) : bytesOf (n % 65536) 2 = bytesOf n 2 := by
  have e1 : n % 65536 / 256 % 256 = n / 256 % 256 := by omega
  have e2 : n % 65536 % 256 = n % 256 := by omega
  rw [bytesOf_two, bytesOf_two, ← ofNat_mod (n % 65536 / 256), e1, ofNat_mod, ← ofNat_mod (n % 65536), e2, ofNat_mod]
theorem bytesOf_two_inj (a b : Nat) (h : bytesOf a 2 = bytesOf b 2) : a % 65536 = b % 65536 := by
  have ha := numOf_bytesOf a 2
  have hb := numOf_bytesOf b 2
  rw [h] at ha
  rw [ha] at hb
  exact hb

/-- The bytes of a message but its sum. -/
def bodyL (m : Msg) : List UInt8 := [204, 1] ++ bytesOf m.dst.toNat 6 ++ bytesOf m.src.toNat 6 ++ bytesOf m.seq.toNat 1 ++ bytesOf m.kind.toNat 1 ++ bytesOf m.par.toNat 2 ++ bytesOf m.dat.size 1 ++ m.dat.data.toList
/-- The bytes of a message. -/
def madeL (m : Msg) : List UInt8 := bodyL m ++ bytesOf (sumN (bodyL m)) 2

theorem bodyL_length (m : Msg) : (bodyL m).length = 19 + m.dat.size := by
  simp [bodyL, bytesOf_length]
  omega
theorem madeL_length (m : Msg) : (madeL m).length = 21 + m.dat.size := by
  rw [madeL, List.length_append, bodyL_length, bytesOf_length]
  omega

/-- What is encoded. -/
def encM (m : Msg) : ByteArray × Int := if chk m ≠ 0 then (⟨#[]⟩, chk m) else (str (madeL m), 0)

/-- Bytes from a place on. -/
def seg (l : List UInt8) (a b : Nat) : List UInt8 := (l.drop a).take (b - a)
/-- The byte at a place. -/
def byteAt (l : List UInt8) (k : Nat) : Nat := (l.getD k 0).toNat

/-- The message of some bytes. -/
def msgL (l : List UInt8) : Msg := ⟨numOf (seg l 2 8), numOf (seg l 8 14), byteAt l 14, byteAt l 15, numOf (seg l 16 18), str (seg l 19 (19 + byteAt l 18))⟩

/-- What is decoded. -/
def decM (l : List UInt8) : Msg × Int :=
  if l.length < 21 then (zeroM, 20) else if ¬ (l.take 2 = [204, 1]) then (zeroM, 3)
  else if l.length < 21 + byteAt l 18 then (zeroM, 20) else if 21 + byteAt l 18 < l.length then (zeroM, 13)
  else if l.drop (19 + byteAt l 18) ≠ bytesOf (sumN (l.take (19 + byteAt l 18))) 2 then (zeroM, 17)
  else rightM (msgL l)

theorem seg_app {a b c : List UInt8} {i j : Nat} (hi : a.length = i) (hj : b.length = j - i) : seg (a ++ b ++ c) i j = b := by
  subst hi
  rw [seg, List.append_assoc, List.drop_left, ← hj, List.take_left]

theorem byteAt_app {a c : List UInt8} {b : UInt8} {i : Nat} (hi : a.length = i) : byteAt (a ++ [b] ++ c) i = b.toNat := by
  subst hi
  simp [byteAt]

theorem small_of_chk {m : Msg} (h : chk m = 0) : 0 ≤ m.dst ∧ m.dst < 281474976710656 ∧ 0 ≤ m.src ∧ m.src < 281474976710656 ∧ 0 ≤ m.seq ∧ m.seq ≤ 255 ∧ 1 ≤ m.kind ∧ m.kind ≤ 7 ∧ 0 ≤ m.par ∧ m.par ≤ 65535 ∧ m.dat.size ≤ 255 := by
  have h' := h
  unfold chk at h'
  split at h'
  · cases h'
  · rename_i h1
    simp only [not_or] at h1
    obtain ⟨a1, a2, a3, a4⟩ := h1
    split at h'
    · cases h'
    · split at h'
      · cases h'
      · split at h'
        · cases h'
        · have b1 : (0 < m.dst ∧ m.dst < 281474976710655) ∨ m.dst = 281474976710655 := by
            have a1' := a1
            simp [isId] at a1'
            omega
          have b2 : 0 < m.src ∧ m.src < 281474976710655 := by simpa [isId] using a2
          omega

theorem numOf_bytes {n : Int} {c : Nat} (h0 : 0 ≤ n) (h1 : n.toNat < 256 ^ c) : (numOf (bytesOf n.toNat c) : Int) = n := by
  rw [numOf_bytesOf, Nat.mod_eq_of_lt h1]
  omega

theorem ofNat_toNat (n : Nat) (h : n ≤ 255) : (UInt8.ofNat n).toNat = n := by
  simp
  omega

theorem str_list (s : ByteArray) : str s.data.toList = s := by
  cases s; simp [str]

theorem msgL_made (m : Msg) (h : chk m = 0) : msgL (madeL m) = m := by
  obtain ⟨d0, d1, s0, s1, q0, q1, k0, k1, p0, p1, n1⟩ := small_of_chk h
  have hb : madeL m = [204, 1] ++ bytesOf m.dst.toNat 6 ++ (bytesOf m.src.toNat 6 ++ bytesOf m.seq.toNat 1 ++ bytesOf m.kind.toNat 1 ++ bytesOf m.par.toNat 2 ++ bytesOf m.dat.size 1 ++ m.dat.data.toList ++ bytesOf (sumN (bodyL m)) 2) := by
    simp only [madeL, bodyL, List.append_assoc]
  have hc : madeL m = ([204, 1] ++ bytesOf m.dst.toNat 6) ++ bytesOf m.src.toNat 6 ++ (bytesOf m.seq.toNat 1 ++ bytesOf m.kind.toNat 1 ++ bytesOf m.par.toNat 2 ++ bytesOf m.dat.size 1 ++ m.dat.data.toList ++ bytesOf (sumN (bodyL m)) 2) := by
    simp only [madeL, bodyL, List.append_assoc]
  have hq : madeL m = ([204, 1] ++ bytesOf m.dst.toNat 6 ++ bytesOf m.src.toNat 6) ++ [UInt8.ofNat m.seq.toNat] ++ (bytesOf m.kind.toNat 1 ++ bytesOf m.par.toNat 2 ++ bytesOf m.dat.size 1 ++ m.dat.data.toList ++ bytesOf (sumN (bodyL m)) 2) := by
    simp only [madeL, bodyL, List.append_assoc, bytesOf_one]
  have hk : madeL m = ([204, 1] ++ bytesOf m.dst.toNat 6 ++ bytesOf m.src.toNat 6 ++ bytesOf m.seq.toNat 1) ++ [UInt8.ofNat m.kind.toNat] ++ (bytesOf m.par.toNat 2 ++ bytesOf m.dat.size 1 ++ m.dat.data.toList ++ bytesOf (sumN (bodyL m)) 2) := by
    simp only [madeL, bodyL, List.append_assoc, bytesOf_one]
  have hp : madeL m = ([204, 1] ++ bytesOf m.dst.toNat 6 ++ bytesOf m.src.toNat 6 ++ bytesOf m.seq.toNat 1 ++ bytesOf m.kind.toNat 1) ++ bytesOf m.par.toNat 2 ++ (bytesOf m.dat.size 1 ++ m.dat.data.toList ++ bytesOf (sumN (bodyL m)) 2) := by
    simp only [madeL, bodyL, List.append_assoc]
  have hn : madeL m = ([204, 1] ++ bytesOf m.dst.toNat 6 ++ bytesOf m.src.toNat 6 ++ bytesOf m.seq.toNat 1 ++ bytesOf m.kind.toNat 1 ++ bytesOf m.par.toNat 2) ++ [UInt8.ofNat m.dat.size] ++ (m.dat.data.toList ++ bytesOf (sumN (bodyL m)) 2) := by
    simp only [madeL, bodyL, List.append_assoc, bytesOf_one]
  have hd : madeL m = ([204, 1] ++ bytesOf m.dst.toNat 6 ++ bytesOf m.src.toNat 6 ++ bytesOf m.seq.toNat 1 ++ bytesOf m.kind.toNat 1 ++ bytesOf m.par.toNat 2 ++ bytesOf m.dat.size 1) ++ m.dat.data.toList ++ bytesOf (sumN (bodyL m)) 2 := by
    simp only [madeL, bodyL, List.append_assoc]
  have en : byteAt (madeL m) 18 = m.dat.size := by
    rw [hn, byteAt_app (by simp [bytesOf_length]), ofNat_toNat _ n1]
  have e1 : (numOf (seg (madeL m) 2 8) : Int) = m.dst := by
    rw [hb, seg_app (a := [204, 1]) (b := bytesOf m.dst.toNat 6) (i := 2) (j := 8) rfl (by rw [bytesOf_length]), numOf_bytes d0 (by omega)]
  have e2 : (numOf (seg (madeL m) 8 14) : Int) = m.src := by
    rw [hc, seg_app (by simp [bytesOf_length]) (by simp [bytesOf_length]), numOf_bytes s0 (by omega)]
  have e3 : (byteAt (madeL m) 14 : Int) = m.seq := by
    rw [hq, byteAt_app (by simp [bytesOf_length]), ofNat_toNat _ (by omega)]
    omega
  have e4 : (byteAt (madeL m) 15 : Int) = m.kind := by
    rw [hk, byteAt_app (by simp [bytesOf_length]), ofNat_toNat _ (by omega)]
    omega
  have e5 : (numOf (seg (madeL m) 16 18) : Int) = m.par := by
    rw [hp, seg_app (by simp [bytesOf_length]) (by simp [bytesOf_length]), numOf_bytes p0 (by omega)]
  have e6 : str (seg (madeL m) 19 (19 + byteAt (madeL m) 18)) = m.dat := by
    rw [en]
    conv => lhs; rw [hd]
    rw [seg_app (by simp [bytesOf_length]) (by simp), str_list]
  unfold msgL
  rw [e1, e2, e3, e4, e5, e6]

theorem made_18 (m : Msg) (h : chk m = 0) : byteAt (madeL m) 18 = m.dat.size := by
  have n1 := (small_of_chk h).2.2.2.2.2.2.2.2.2.2
  have hn : madeL m = ([204, 1] ++ bytesOf m.dst.toNat 6 ++ bytesOf m.src.toNat 6 ++ bytesOf m.seq.toNat 1 ++ bytesOf m.kind.toNat 1 ++ bytesOf m.par.toNat 2) ++ [UInt8.ofNat m.dat.size] ++ (m.dat.data.toList ++ bytesOf (sumN (bodyL m)) 2) := by
    simp only [madeL, bodyL, List.append_assoc, bytesOf_one]
  rw [hn, byteAt_app (by simp [bytesOf_length]), ofNat_toNat _ n1]

theorem made_head (m : Msg) : (madeL m).take 2 = [204, 1] := by
  have hb : madeL m = [204, 1] ++ (bytesOf m.dst.toNat 6 ++ bytesOf m.src.toNat 6 ++ bytesOf m.seq.toNat 1 ++ bytesOf m.kind.toNat 1 ++ bytesOf m.par.toNat 2 ++ bytesOf m.dat.size 1 ++ m.dat.data.toList ++ bytesOf (sumN (bodyL m)) 2) := by
    simp only [madeL, bodyL, List.append_assoc]
  rw [hb]
  rfl

/-- What is encoded is decoded. -/
theorem dec_made (m : Msg) (h : chk m = 0) : decM (madeL m) = (m, 0) := by
  have hl := madeL_length m
  have h18 := made_18 m h
  have hlen : (bodyL m).length = 19 + m.dat.size := bodyL_length m
  unfold decM
  rw [if_neg (by omega), if_neg (not_not_intro (made_head m)), if_neg (by omega), if_neg (by omega), h18]
  have e1 : (madeL m).drop (19 + m.dat.size) = bytesOf (sumN (bodyL m)) 2 := by rw [madeL, ← hlen, List.drop_left]
  have e2 : (madeL m).take (19 + m.dat.size) = bodyL m := by rw [madeL, ← hlen, List.take_left]
  rw [e1, e2, if_neg (not_not_intro rfl), msgL_made m h, rightM, if_pos h]

/-- No beginning of what is encoded is decoded. -/
theorem dec_torn (m : Msg) (h : chk m = 0) (k : Nat) (hk : k < (madeL m).length) : (decM ((madeL m).take k)).2 = 20 := by
  have hl := madeL_length m
  have h18 := made_18 m h
  unfold decM
  rw [List.length_take, Nat.min_eq_left (by omega)]
  by_cases h21 : k < 21
  · rw [if_pos h21]
  · have hh : ((madeL m).take k).take 2 = [204, 1] := by rw [List.take_take, Nat.min_eq_left (by omega), made_head]
    have hb : byteAt ((madeL m).take k) 18 = m.dat.size := by
      rw [← h18]
      unfold byteAt
      rw [List.getD_eq_getElem?_getD, List.getD_eq_getElem?_getD, List.getElem?_take, if_pos (by omega)]
    rw [if_neg h21, if_neg (not_not_intro hh), hb, if_pos (by omega)]

/-- What has more behind it is not decoded. -/
theorem dec_long (m : Msg) (h : chk m = 0) (x : UInt8) : (decM (madeL m ++ [x])).2 = 13 := by
  have hl := madeL_length m
  have h18 := made_18 m h
  have hh : (madeL m ++ [x]).take 2 = [204, 1] := by rw [List.take_append_of_le_length (by omega), made_head]
  have hb : byteAt (madeL m ++ [x]) 18 = m.dat.size := by
    rw [← h18]
    unfold byteAt
    rw [List.getD_eq_getElem?_getD, List.getD_eq_getElem?_getD, List.getElem?_append_left (by omega)]
  have hlen : (madeL m ++ [x]).length = 22 + m.dat.size := by simp; omega
  unfold decM
  rw [hlen, if_neg (by omega), if_neg (not_not_intro hh), hb, if_neg (by omega), if_pos (by omega)]

theorem sumN_set (l : List UInt8) (i : Nat) (x : UInt8) (h : i < l.length) : sumN (l.set i x) + (l[i]).toNat = sumN l + x.toNat := by
  induction l generalizing i with
  | nil => simp at h
  | cons b l ih =>
    cases i with
    | zero => rw [List.set_cons_zero, sumN_cons, sumN_cons]; simp; omega
    | succ i =>
      have := ih i (by simpa using h)
      rw [List.set_cons_succ, sumN_cons, sumN_cons, List.getElem_cons_succ]
      omega

/-- With one byte turned into another nothing is accepted. -/
theorem dec_spoilt (m : Msg) (h : chk m = 0) (i : Nat) (hi : i < (madeL m).length) (x : UInt8) (hx : x ≠ (madeL m)[i]) : (decM ((madeL m).set i x)).2 ≠ 0 := by
  have hl := madeL_length m
  have h18 := made_18 m h
  have hhead := made_head m
  have hlen : (bodyL m).length = 19 + m.dat.size := bodyL_length m
  have hxn : x.toNat ≠ ((madeL m)[i]).toNat := fun e => hx (UInt8.toNat_inj.1 e)
  have hlx := x.toNat_lt
  have hlo := ((madeL m)[i]).toNat_lt
  by_cases h2 : i < 2
  · have hne : ¬ (((madeL m).set i x).take 2 = [204, 1]) := by
      intro e
      have e2 : (((madeL m).set i x).take 2)[i]? = ([204, 1] : List UInt8)[i]? := by rw [e]
      rw [← hhead, List.getElem?_take, List.getElem?_take, if_pos h2, if_pos h2, List.getElem?_set, if_pos rfl, if_pos hi, List.getElem?_eq_getElem hi] at e2
      simp only [Option.some.injEq] at e2
      exact hx e2
    unfold decM
    rw [List.length_set, if_neg (by omega), if_pos hne]
    decide
  · have hh : ((madeL m).set i x).take 2 = [204, 1] := by
      rw [← hhead]
      apply List.ext_getElem?
      intro j
      rw [List.getElem?_take, List.getElem?_take]
      by_cases hj : j < 2
      · rw [if_pos hj, if_pos hj, List.getElem?_set, if_neg (by omega)]
      · rw [if_neg hj, if_neg hj]
    by_cases h18' : i = 18
    · subst h18'
      have hb : byteAt ((madeL m).set 18 x) 18 = x.toNat := by
        unfold byteAt
        rw [List.getD_eq_getElem?_getD, List.getElem?_set, if_pos rfl, if_pos hi]
        rfl
      have ho : ((madeL m)[18]).toNat = m.dat.size := by
        rw [← h18]
        unfold byteAt
        rw [List.getD_eq_getElem?_getD, List.getElem?_eq_getElem hi]
        rfl
      unfold decM
      rw [List.length_set, if_neg (by omega), if_neg (not_not_intro hh), hb]
      by_cases hlt : (madeL m).length < 21 + x.toNat
      · rw [if_pos hlt]; decide
      · rw [if_neg hlt, if_pos (by omega)]; decide
    · have hb : byteAt ((madeL m).set i x) 18 = m.dat.size := by
        rw [← h18]
        unfold byteAt
        rw [List.getD_eq_getElem?_getD, List.getD_eq_getElem?_getD, List.getElem?_set, if_neg h18']
      unfold decM
      rw [List.length_set, if_neg (by omega), if_neg (not_not_intro hh), hb, if_neg (by omega), if_neg (by omega)]
      have e1 : (madeL m).drop (19 + m.dat.size) = bytesOf (sumN (bodyL m)) 2 := by rw [madeL, ← hlen, List.drop_left]
      have e2 : (madeL m).take (19 + m.dat.size) = bodyL m := by rw [madeL, ← hlen, List.take_left]
      by_cases hib : i < 19 + m.dat.size
      · have d1 : ((madeL m).set i x).drop (19 + m.dat.size) = bytesOf (sumN (bodyL m)) 2 := by rw [List.drop_set_of_lt hib, e1]
        have hi2 : i < (bodyL m).length := by omega
        have d2 : ((madeL m).set i x).take (19 + m.dat.size) = (bodyL m).set i x := by rw [List.take_set, e2]
        have hs := sumN_set (bodyL m) i x hi2
        have hsame : ((madeL m)[i]'hi).toNat = ((bodyL m)[i]'hi2).toNat := by
          have e0 : (madeL m)[i]? = (bodyL m)[i]? := by rw [madeL, List.getElem?_append_left hi2]
          rw [List.getElem?_eq_getElem hi, List.getElem?_eq_getElem hi2, Option.some.injEq] at e0
          rw [e0]
        rw [d1, d2, if_pos]
        · decide
        · intro e
          have := bytesOf_two_inj _ _ e
          have := sumN_le (bodyL m)
          omega
      · have d2 : ((madeL m).set i x).take (19 + m.dat.size) = bodyL m := by rw [List.take_set_of_le (by omega), e2]
        rw [d2, if_pos]
        · decide
        · intro e
          have e3 : (((madeL m).set i x).drop (19 + m.dat.size))[i - (19 + m.dat.size)]? = ((madeL m).drop (19 + m.dat.size))[i - (19 + m.dat.size)]? := by rw [e, e1]
          rw [List.getElem?_drop, List.getElem?_drop, show 19 + m.dat.size + (i - (19 + m.dat.size)) = i from by omega, List.getElem?_set, if_pos rfl, if_pos hi, List.getElem?_eq_getElem hi] at e3
          simp only [Option.some.injEq] at e3
          exact hx e3

end Go.Proofs.YtpkhcehddfmhpaaGreat

namespace Go.Proofs.YtpkhcehddfmhpaaGreat
open Go.RowKit

theorem sumN_snoc (s : ByteArray) (k : Nat) (h : k < s.size) : sumN (s.data.toList.take (k + 1)) = sumN (s.data.toList.take k) + s[k].toNat := by
  rw [take_snoc s k h, sumN_append, sumN_cons, sumN_nil]
  omega
theorem sumN_take (s : ByteArray) (k : Nat) : sumN (s.data.toList.take k) ≤ 255 * k := by
  refine Nat.le_trans (sumN_le _) ?_
  have := List.length_take_le k s.data.toList
  omega

theorem sum_add (a : Nat) (b : UInt8) (h : a < 1000000000000) : IntKind.u64.wrap ((a : Int) + IntKind.u64.wrap (b.toNat : Int)) = ((a + b.toNat : Nat) : Int) := by
  have hb := b.toNat_lt
  rw [IntWalk.u64_in (b.toNat : Int) (by omega), IntWalk.u64_in _ (by omega)]
  omega

set_option maxHeartbeats 400000 in
theorem sum_any (s : ByteArray) (w : World) (hs : s.size ≤ 100000) :
    Calls Tryz.prog 48 #[.string s] w fun e w' => e = .returned (.string (bytesB (sumN s.data.toList) 2)) ∧ Below w.heap.size w w' := by
  have hall := sumN_take s s.size
  rw [List.take_of_length_le (by simp)] at hall
  have hb := bytes_any (sumN s.data.toList : Nat) 2 w (by omega) (by omega) (by omega) (by omega)
  go_enter Tryz.func48, Tryz.ntmps48
  go_wp2
  go_loop [3, 7] (fun n i => ∃ k : Nat, k ≤ s.size ∧ i = .int .i64 k ∧ n = .int .u64 (sumN (s.data.toList.take k))) (fun _ i => s.size - (intOf i).toNat)
  case atStart => exact ⟨0, Nat.zero_le _, rfl, rfl⟩
  case round =>
    obtain ⟨k, hk, rfl, rfl⟩ := hrel
    by_cases hlt : k < s.size
    · have hb := sumN_take s k
      have hsn := sumN_snoc s k hlt
      have HS : Hid (sumN (s.data.toList.take (k + 1)) = sumN (s.data.toList.take k) + s[k].toNat) := hsn
      clear hsn
      go_wp2
      go_round
      case rel => exact ⟨k + 1, by omega, by go_num, by rw [HS.out, sum_add _ _ (by omega)]⟩
      case measure => simp [intOf]; omega
    · obtain rfl : k = s.size := by omega
      rw [List.take_of_length_le (by simp)]
      go_wp2_with (go_at_call 39; refine (hb).mono ?_; rintro e w' ⟨rfl, hb⟩)
      go_ret
      exact ⟨rfl, hb⟩

theorem refsum_add (a : Nat) (b : UInt8) : ((a % 65536 : Nat) : Int) + IntKind.i64.wrap (b.toNat : Int) = ((a % 65536 + b.toNat : Nat) : Int) := by
  have hb := b.toNat_lt
  rw [IntWalk.i64_in (b.toNat : Int) (by omega)]
  omega

set_option maxHeartbeats 400000 in
theorem refsum_any (s : ByteArray) (w : World) (hs : s.size ≤ 100000) :
    Calls Tryz.prog 135 #[.string s] w fun e w' => e = .returned (.int .i64 ((sumN s.data.toList % 65536 : Nat) : Int)) ∧ w = w' := by
  go_enter Tryz.func135, Tryz.ntmps135
  go_wp2
  go_loop [3, 4] (fun n i => ∃ k : Nat, k ≤ s.size ∧ i = .int .i64 k ∧ n = .int .i64 ((sumN (s.data.toList.take k) % 65536 : Nat) : Int)) (fun _ i => s.size - (intOf i).toNat)
  case atStart => exact ⟨0, Nat.zero_le _, rfl, rfl⟩
  case round =>
    obtain ⟨k, hk, rfl, rfl⟩ := hrel
    by_cases hlt : k < s.size
    · have HS : Hid (sumN (s.data.toList.take (k + 1)) = sumN (s.data.toList.take k) + s[k].toNat) := sumN_snoc s k hlt
      have hb := s[k].toNat_lt
      generalize hq : sumN (s.data.toList.take k) % 65536 = q
      have hq2 : q < 65536 := by omega
      have HQ : Hid (sumN (s.data.toList.take k) % 65536 = q) := hq
      clear hq
      go_wp2
      go_round
      case rel => exact ⟨k + 1, by omega, by go_num, by have h1 := HS.out; have h2 := HQ.out; rw [h1]; congr 1; simp; omega⟩
      case measure => simp [intOf]; omega
    · obtain rfl : k = s.size := by omega
      rw [List.take_of_length_le (by simp)]
      go_wp2
      go_ret
      exact ⟨rfl, rfl⟩

set_option maxHeartbeats 400000 in
set_option maxRecDepth 100000 in
theorem mbytes_nat (n c : Nat) (w : World) (hn : n < 18446744073709551616) (hc : c ≤ 100) :
    Calls Tryz.prog 168 #[.int .u64 n, .int .i64 c] w fun e w' => e = .returned (.string (str (bytesOf n c))) ∧ Below w.heap.size w w' := by
  go_enter Tryz.func168, Tryz.ntmps168
  go_wp2
  go_loopw [0, 5, 6] (fun x s i wr => ∃ k m : Nat, k ≤ c ∧ i = .int .i64 k ∧ x = .int .u64 m ∧ s = .string (str (bytesOf n k)) ∧ Hid (m = n / 256 ^ k) ∧ m < 18446744073709551616 ∧ Below w.heap.size w wr) (fun _ _ i _ => c - (intOf i).toNat)
  case atStart => exact ⟨0, n, Nat.zero_le _, rfl, rfl, rfl, by simp [Hid], hn, Below.refl _ _⟩
  case round =>
    obtain ⟨k, m, hk, rfl, rfl, rfl, hm, hmlt, hbel⟩ := hrel
    by_cases hlt : k < c
    · have hcv := conv_one wr m
      have hs1 := str_size [UInt8.ofNat m]
      have hs2 : (str (bytesOf n k)).size ≤ 100 := by rw [str_size, bytesOf_length]; omega
      go_wp2
      go_roundw
      case rel => exact ⟨k + 1, m / 256, by omega, by go_num, by go_num, by rw [str_cons, hm.out, bytesOf_cons], by rw [hm.out, Nat.div_div_eq_div_mul, ← Nat.pow_succ]; rfl, by omega, hbel.alloc hbel.size _⟩
      case measure => simp [intOf]; omega
    · obtain rfl : k = c := by omega
      go_wp2
      go_ret
      exact ⟨rfl, hbel⟩

end Go.Proofs.YtpkhcehddfmhpaaGreat

namespace Go.Proofs.YtpkhcehddfmhpaaGreat

theorem byteAt_get (s : ByteArray) (k : Nat) (h : k < s.size) : byteAt s.data.toList k = s[k].toNat := by
  unfold byteAt
  rw [List.getD_eq_getElem?_getD, List.getElem?_eq_getElem (by simpa using h)]
  rfl

theorem list_two (l : List UInt8) (h : 2 ≤ l.length) : l.take 2 = [l[0], l[1]] := by
  match l, h with
  | a :: b :: t, _ => rfl

theorem head_iff (s : ByteArray) (h : 2 ≤ s.size) : s.data.toList.take 2 = [204, 1] ↔ s[0].toNat = 204 ∧ s[1].toNat = 1 := by
  rw [list_two _ (by simpa using h)]
  show [s[0], s[1]] = [204, 1] ↔ _
  constructor
  · intro e
    simp only [List.cons.injEq, and_true] at e
    rw [e.1, e.2]
    exact ⟨rfl, rfl⟩
  · rintro ⟨e1, e2⟩
    have f1 : s[0] = 204 := UInt8.toNat_inj.1 e1
    have f2 : s[1] = 1 := UInt8.toNat_inj.1 e2
    rw [f1, f2]

theorem numOf_two (a b : UInt8) : numOf [a, b] = a.toNat * 256 + b.toNat := by
  simp [numOf]

theorem bytes_two (d : List UInt8) (h : d.length = 2) : bytesOf (numOf d) 2 = d := by
  match d, h with
  | [a, b], _ =>
    have ha := a.toNat_lt
    have hb := b.toNat_lt
    rw [numOf_two, bytesOf_two, show (a.toNat * 256 + b.toNat) / 256 = a.toNat from by omega, ← ofNat_mod (a.toNat * 256 + b.toNat), show (a.toNat * 256 + b.toNat) % 256 = b.toNat from by omega]
    simp

theorem two_iff (d : List UInt8) (n : Nat) (h : d.length = 2) : d = bytesOf n 2 ↔ numOf d = n % 65536 := by
  constructor
  · intro e
    rw [e, numOf_bytesOf]
  · intro e
    have := bytes_two d h
    rw [e, bytesOf_mod] at this
    exact this.symm

theorem extract_list (s : ByteArray) (a b : Nat) : (s.extract a b).data.toList = seg s.data.toList a b := by
  simp [seg]

theorem drop_seg (s : ByteArray) (a : Nat) : s.data.toList.drop a = (s.extract a s.size).data.toList := by
  rw [extract_list, seg, List.take_of_length_le]
  simp
theorem take_seg (s : ByteArray) (a : Nat) : s.data.toList.take a = (s.extract 0 a).data.toList := by
  rw [extract_list, seg, List.drop_zero, Nat.sub_zero]

/-- The sum of the bytes ahead of the last two. -/
def sumBad (s : ByteArray) (n : Nat) : Bool := decide (numOf (s.extract (19 + n) (21 + n)).data.toList ≠ sumN (s.extract 0 (19 + n)).data.toList % 65536)

/-- What is decoded, by the bytes of the text. -/
theorem decM_eq (s : ByteArray) (n : Nat) (h21 : 21 ≤ s.size) (hn : s[18].toNat = n) : decM s.data.toList =
    if s[0].toNat ≠ 204 ∨ s[1].toNat ≠ 1 then (zeroM, 3) else if s.size < 21 + n then (zeroM, 20) else if 21 + n < s.size then (zeroM, 13)
    else if sumBad s n then (zeroM, 17) else rightM (msgL s.data.toList) := by
  have hl : s.data.toList.length = s.size := by simp
  have hb : byteAt s.data.toList 18 = n := by rw [byteAt_get s 18 (by omega), hn]
  unfold decM
  have hh := head_iff s (by omega)
  rw [hl, if_neg (by omega), hb]
  by_cases h1 : s[0].toNat = 204 ∧ s[1].toNat = 1
  · have hq : ¬ (s[0].toNat ≠ 204 ∨ s[1].toNat ≠ 1) := by rw [not_or]; exact ⟨not_not_intro h1.1, not_not_intro h1.2⟩
    rw [if_neg (not_not_intro (hh.2 h1)), if_neg hq]
    by_cases h2 : s.size < 21 + n
    · rw [if_pos h2, if_pos h2]
    · rw [if_neg h2, if_neg h2]
      by_cases h3 : 21 + n < s.size
      · rw [if_pos h3, if_pos h3]
      · have hs : s.size = 21 + n := by omega
        rw [if_neg h3, if_neg h3, drop_seg, take_seg, hs]
        have h2 : (s.extract (19 + n) (21 + n)).data.toList.length = 2 := by simp [hs]; omega
        have e := two_iff _ (sumN (s.extract 0 (19 + n)).data.toList) h2
        by_cases h4 : (s.extract (19 + n) (21 + n)).data.toList = bytesOf (sumN (s.extract 0 (19 + n)).data.toList) 2
        · rw [if_neg (not_not_intro h4), if_neg]
          simpa [sumBad] using e.1 h4
        · rw [if_pos h4, if_pos]
          simpa [sumBad] using fun he => h4 (e.2 he)
  · rw [if_pos fun e => h1 (hh.1 e), if_pos]
    by_cases h5 : s[0].toNat = 204
    · exact .inr fun h6 => h1 ⟨h5, h6⟩
    · exact .inl h5

theorem one_byte (s : ByteArray) (k : Nat) (h : k < s.size) : numOf (s.extract k (k + 1)).data.toList = s[k].toNat := by
  have hl : k < s.data.toList.length := by simpa using h
  rw [extract_list, seg, List.drop_eq_getElem_cons hl, show k + 1 - k = 1 from by omega]
  simp [numOf]
  rfl

/-- The message of the bytes of a text, by its pieces. -/
theorem msgL_eq (s : ByteArray) (n : Nat) (h21 : 21 ≤ s.size) (hn : s[18].toNat = n) : msgL s.data.toList =
    ⟨numOf (s.extract 2 8).data.toList, numOf (s.extract 8 14).data.toList, s[14].toNat, s[15].toNat, numOf (s.extract 16 18).data.toList, s.extract 19 (19 + n)⟩ := by
  have hb : byteAt s.data.toList 18 = n := by rw [byteAt_get s 18 (by omega), hn]
  rw [msgL, byteAt_get s 14 (by omega), byteAt_get s 15 (by omega), hb, ← extract_list, ← extract_list, ← extract_list, ← extract_list, str_list]

/-- What is decoded, as the program reckons it. -/
theorem decM_run (s : ByteArray) (n : Nat) (q : Bool) (h21 : 21 ≤ s.size) (hn : numOf (s.extract 18 19).data.toList = n) (hq : ((s.extract 0 2).toList == [204, 1]) = q) : decM s.data.toList =
    if q = false then (zeroM, 3) else if s.size < 21 + n then (zeroM, 20) else if 21 + n < s.size then (zeroM, 13)
    else if (s.extract (19 + n) s.size).data.toList ≠ (bytesB (sumN (s.extract 0 (19 + n)).data.toList : Nat) 2).data.toList then (zeroM, 17)
    else rightM ⟨numOf (s.extract 2 8).data.toList, numOf (s.extract 8 14).data.toList, numOf (s.extract 14 15).data.toList, numOf (s.extract 15 16).data.toList, numOf (s.extract 16 18).data.toList, s.extract 19 (19 + n)⟩ := by
  have h18 := one_byte s 18 (by omega)
  rw [hn] at h18
  have hb : byteAt s.data.toList 18 = n := by rw [byteAt_get s 18 (by omega), h18]
  have hl : s.data.toList.length = s.size := by simp
  have ht : (s.extract 0 2).toList = s.data.toList.take 2 := by rw [ByteArray.toList_eq, take_seg]
  unfold decM
  rw [hl, if_neg (by omega), hb, msgL_eq s n h21 h18.symm, ← drop_seg, ← take_seg, bytesB, one_byte s 14 (by omega), one_byte s 15 (by omega)]
  rw [ht] at hq
  have e2 : (str (bytesOf ((sumN (List.take (19 + n) s.data.toList) : Nat) : Int).toNat (2 : Int).toNat)).data.toList = bytesOf (sumN (List.take (19 + n) s.data.toList)) 2 := by simp [str]
  rw [e2]
  cases q
  · have h1 : ¬ List.take 2 s.data.toList = [204, 1] := by simpa using hq
    rw [if_pos h1, if_pos rfl]
  · have h1 : List.take 2 s.data.toList = [204, 1] := by simpa using hq
    rw [if_neg (not_not_intro h1), if_neg (show ¬ (true = false) by simp)]

end Go.Proofs.YtpkhcehddfmhpaaGreat
