/-
  Plain laws on the bytes of messages: sums, what is encoded, what is decoded.
-/
import Derived.Test.YtdklpmaeajpacaaDoorReq
namespace Go.Proofs.YtdklpmaeajpacaaDoor

/-- The sum of bytes. -/
def sumN (l : List UInt8) : Nat := l.foldl (fun a b => a + b.toNat) 0

theorem sumN_from (l : List UInt8) (a : Nat) : l.foldl (fun a b => a + b.toNat) a = a + sumN l := by
  induction l generalizing a with
  | nil => rfl
  | cons b l ih =>
    rw [List.foldl_cons, ih]
    show _ = a + (b :: l).foldl (fun a b => a + b.toNat) 0
    rw [List.foldl_cons, ih]
    omega
theorem sumN_nil : sumN [] = 0 := rfl
theorem sumN_cons (b : UInt8) (l : List UInt8) : sumN (b :: l) = b.toNat + sumN l := by rw [sumN, List.foldl_cons, sumN_from]; omega
theorem sumN_append (l m : List UInt8) : sumN (l ++ m) = sumN l + sumN m := by rw [sumN, List.foldl_append, sumN_from]; rfl
theorem sumN_le (l : List UInt8) : sumN l ≤ 255 * l.length := by
  induction l with
  | nil => exact Nat.le_refl _
  | cons b l ih =>
    rw [sumN_cons, List.length_cons]
    have := b.toNat_lt
    omega

theorem bytesOf_two (n : Nat) : bytesOf n 2 = [UInt8.ofNat (n / 256), UInt8.ofNat n] := rfl
theorem bytesOf_one (n : Nat) : bytesOf n 1 = [UInt8.ofNat n] := rfl
theorem ofNat_mod (n : Nat) : UInt8.ofNat (n % 256) = UInt8.ofNat n := by
  apply UInt8.toNat_inj.1
  simp
theorem bytesOf_mod (n : Nat) : bytesOf (n % 65536) 2 = bytesOf n 2 := by
  have e1 : n % 65536 / 256 % 256 = n / 256 % 256 := by omega
  have e2 : n % 65536 % 256 = n % 256 := by omega
  rw [bytesOf_two, bytesOf_two, ← ofNat_mod (n % 65536 / 256), e1, ofNat_mod, ← ofNat_mod (n % 65536), e2, ofNat_mod]
theorem bytesOf_two_inj (a b : Nat) (h : bytesOf a 2 = bytesOf b 2) : a % 65536 = b % 65536 := by
  have ha := numOf_bytesOf a 2
  have hb := numOf_bytesOf b 2
  rw [h] at ha
  rw [ha] at hb
  exact hb

/-- The bytes of a message but its sum. -/
def bodyL (m : Msg) : List UInt8 := [204, 1] ++ bytesOf m.dst.toNat 6 ++ bytesOf m.src.toNat 6 ++ bytesOf m.seq.toNat 1 ++ bytesOf m.kind.toNat 1 ++ bytesOf m.par.toNat 2 ++ bytesOf m.dat.size 1 ++ m.dat.data.toList
/-- The bytes of a message. -/
def madeL (m : Msg) : List UInt8 := bodyL m ++ bytesOf (sumN (bodyL m)) 2

theorem bodyL_length (m : Msg) : (bodyL m).length = 19 + m.dat.size := by
  simp [bodyL, bytesOf_length]
  omega
theorem madeL_length (m : Msg) : (madeL m).length = 21 + m.dat.size := by
  rw [madeL, List.length_append, bodyL_length, bytesOf_length]
  omega

/-- What is encoded. -/
def encM (m : Msg) : ByteArray × Int := if chk m ≠ 0 then (⟨#[]⟩, chk m) else (str (madeL m), 0)

/-- Bytes from a place on. -/
def seg (l : List UInt8) (a b : Nat) : List UInt8 := (l.drop a).take (b - a)
/-- The byte at a place. -/
def byteAt (l : List UInt8) (k : Nat) : Nat := (l.getD k 0).toNat

/-- The message of some bytes. -/
def msgL (l : List UInt8) : Msg := ⟨numOf (seg l 2 8), numOf (seg l 8 14), byteAt l 14, byteAt l 15, numOf (seg l 16 18), str (seg l 19 (19 + byteAt l 18))⟩

/-- What is decoded. -/
def decM (l : List UInt8) : Msg × Int :=
  if l.length < 21 then (zeroM, 20) else if ¬ (l.take 2 = [204, 1]) then (zeroM, 3)
  else if l.length < 21 + byteAt l 18 then (zeroM, 20) else if 21 + byteAt l 18 < l.length then (zeroM, 13)
  else if l.drop (19 + byteAt l 18) ≠ bytesOf (sumN (l.take (19 + byteAt l 18))) 2 then (zeroM, 17)
  else rightM (msgL l)

theorem seg_app {a b c : List UInt8} {i j : Nat} (hi : a.length = i) (hj : b.length = j - i) : seg (a ++ b ++ c) i j = b := by
  subst hi
  rw [seg, List.append_assoc, List.drop_left, ← hj, List.take_left]

theorem byteAt_app {a c : List UInt8} {b : UInt8} {i : Nat} (hi : a.length = i) : byteAt (a ++ [b] ++ c) i = b.toNat := by
  subst hi
  simp [byteAt]

theorem small_of_chk {m : Msg} (h : chk m = 0) : 0 ≤ m.dst ∧ m.dst < 281474976710656 ∧ 0 ≤ m.src ∧ m.src < 281474976710656 ∧ 0 ≤ m.seq ∧ m.seq ≤ 255 ∧ 1 ≤ m.kind ∧ m.kind ≤ 7 ∧ 0 ≤ m.par ∧ m.par ≤ 65535 ∧ m.dat.size ≤ 255 := by
  have h' := h
  unfold chk at h'
  split at h'
  · cases h'
  · rename_i h1
    simp only [not_or] at h1
    obtain ⟨a1, a2, a3, a4⟩ := h1
    split at h'
    · cases h'
    · split at h'
      · cases h'
      · split at h'
        · cases h'
        · have b1 : (0 < m.dst ∧ m.dst < 281474976710655) ∨ m.dst = 281474976710655 := by
            have a1' := a1
            simp [isId] at a1'
            omega
          have b2 : 0 < m.src ∧ m.src < 281474976710655 := by simpa [isId] using a2
          omega

theorem numOf_bytes {n : Int} {c : Nat} (h0 : 0 ≤ n) (h1 : n.toNat < 256 ^ c) : (numOf (bytesOf n.toNat c) : Int) = n := by
  rw [numOf_bytesOf, Nat.mod_eq_of_lt h1]
  omega

theorem ofNat_toNat (n : Nat) (h : n ≤ 255) : (UInt8.ofNat n).toNat = n := by
  simp
  omega

theorem str_list (s : ByteArray) : str s.data.toList = s := by
  cases s; simp [str]

theorem msgL_made (m : Msg) (h : chk m = 0) : msgL (madeL m) = m := by
  obtain ⟨d0, d1, s0, s1, q0, q1, k0, k1, p0, p1, n1⟩ := small_of_chk h
  have hb : madeL m = [204, 1] ++ bytesOf m.dst.toNat 6 ++ (bytesOf m.src.toNat 6 ++ bytesOf m.seq.toNat 1 ++ bytesOf m.kind.toNat 1 ++ bytesOf m.par.toNat 2 ++ bytesOf m.dat.size 1 ++ m.dat.data.toList ++ bytesOf (sumN (bodyL m)) 2) := by
    simp only [madeL, bodyL, List.append_assoc]
  have hc : madeL m = ([204, 1] ++ bytesOf m.dst.toNat 6) ++ bytesOf m.src.toNat 6 ++ (bytesOf m.seq.toNat 1 ++ bytesOf m.kind.toNat 1 ++ bytesOf m.par.toNat 2 ++ bytesOf m.dat.size 1 ++ m.dat.data.toList ++ bytesOf (sumN (bodyL m)) 2) := by
    simp only [madeL, bodyL, List.append_assoc]
  have hq : madeL m = ([204, 1] ++ bytesOf m.dst.toNat 6 ++ bytesOf m.src.toNat 6) ++ [UInt8.ofNat m.seq.toNat] ++ (bytesOf m.kind.toNat 1 ++ bytesOf m.par.toNat 2 ++ bytesOf m.dat.size 1 ++ m.dat.data.toList ++ bytesOf (sumN (bodyL m)) 2) := by
    simp only [madeL, bodyL, List.append_assoc, bytesOf_one]
  have hk : madeL m = ([204, 1] ++ bytesOf m.dst.toNat 6 ++ bytesOf m.src.toNat 6 ++ bytesOf m.seq.toNat 1) ++ [UInt8.ofNat m.kind.toNat] ++ (bytesOf m.par.toNat 2 ++ bytesOf m.dat.size 1 ++ m.dat.data.toList ++ bytesOf (sumN (bodyL m)) 2) := by
    simp only [madeL, bodyL, List.append_assoc, bytesOf_one]
  have hp : madeL m = ([204, 1] ++ bytesOf m.dst.toNat 6 ++ bytesOf m.src.toNat 6 ++ bytesOf m.seq.toNat 1 ++ bytesOf m.kind.toNat 1) ++ bytesOf m.par.toNat 2 ++ (bytesOf m.dat.size 1 ++ m.dat.data.toList ++ bytesOf (sumN (bodyL m)) 2) := by
    simp only [madeL, bodyL, List.append_assoc]
  have hn : madeL m = ([204, 1] ++ bytesOf m.dst.toNat 6 ++ bytesOf m.src.toNat 6 ++ bytesOf m.seq.toNat 1 ++ bytesOf m.kind.toNat 1 ++ bytesOf m.par.toNat 2) ++ [UInt8.ofNat m.dat.size] ++ (m.dat.data.toList ++ bytesOf (sumN (bodyL m)) 2) := by
    simp only [madeL, bodyL, List.append_assoc, bytesOf_one]
  have hd : madeL m = ([204, 1] ++ bytesOf m.dst.toNat 6 ++ bytesOf m.src.toNat 6 ++ bytesOf m.seq.toNat 1 ++ bytesOf m.kind.toNat 1 ++ bytesOf m.par.toNat 2 ++ bytesOf m.dat.size 1) ++ m.dat.data.toList ++ bytesOf (sumN (bodyL m)) 2 := by
    simp only [madeL, bodyL, List.append_assoc]
  have en : byteAt (madeL m) 18 = m.dat.size := by
    rw [hn, byteAt_app (by simp [bytesOf_length]), ofNat_toNat _ n1]
  have e1 : (numOf (seg (madeL m) 2 8) : Int) = m.dst := by
    rw [hb, seg_app (a := [204, 1]) (b := bytesOf m.dst.toNat 6) (i := 2) (j := 8) rfl (by rw [bytesOf_length]), numOf_bytes d0 (by omega)]
  have e2 : (numOf (seg (madeL m) 8 14) : Int) = m.src := by
    rw [hc, seg_app (by simp [bytesOf_length]) (by simp [bytesOf_length]), numOf_bytes s0 (by omega)]
  have e3 : (byteAt (madeL m) 14 : Int) = m.seq := by
    rw [hq, byteAt_app (by simp [bytesOf_length]), ofNat_toNat _ (by omega)]
    omega
  have e4 : (byteAt (madeL m) 15 : Int) = m.kind := by
    rw [hk, byteAt_app (by simp [bytesOf_length]), ofNat_toNat _ (by omega)]
    omega
  have e5 : (numOf (seg (madeL m) 16 18) : Int) = m.par := by
    rw [hp, seg_app (by simp [bytesOf_length]) (by simp [bytesOf_length]), numOf_bytes p0 (by omega)]
  have e6 : str (seg (madeL m) 19 (19 + byteAt (madeL m) 18)) = m.dat := by
    rw [en]
    conv => lhs; rw [hd]
    rw [seg_app (by simp [bytesOf_length]) (by simp), str_list]
  unfold msgL
  rw [e1, e2, e3, e4, e5, e6]

theorem made_18 (m : Msg) (h : chk m = 0) : byteAt (madeL m) 18 = m.dat.size := by
  have n1 := (small_of_chk h).2.2.2.2.2.2.2.2.2.2
  have hn : madeL m = ([204, 1] ++ bytesOf m.dst.toNat 6 ++ bytesOf m.src.toNat 6 ++ bytesOf m.seq.toNat 1 ++ bytesOf m.kind.toNat 1 ++ bytesOf m.par.toNat 2) ++ [UInt8.ofNat m.dat.size] ++ (m.dat.data.toList ++ bytesOf (sumN (bodyL m)) 2) := by
    simp only [madeL, bodyL, List.append_assoc, bytesOf_one]
  rw [hn, byteAt_app (by simp [bytesOf_length]), ofNat_toNat _ n1]

theorem made_head (m : Msg) : (madeL m).take 2 = [204, 1] := by
  have hb : madeL m = [204, 1] ++ (bytesOf m.dst.toNat 6 ++ bytesOf m.src.toNat 6 ++ bytesOf m.seq.toNat 1 ++ bytesOf m.kind.toNat 1 ++ bytesOf m.par.toNat 2 ++ bytesOf m.dat.size 1 ++ m.dat.data.toList ++ bytesOf (sumN (bodyL m)) 2) := by
    simp only [madeL, bodyL, List.append_assoc]
  rw [hb]
  rfl

/-- What is encoded is decoded. -/
theorem dec_made (m : Msg) (h : chk m = 0) : decM (madeL m) = (m, 0) := by
  have hl := madeL_length m
  have h18 := made_18 m h
  have hlen : (bodyL m).length = 19 + m.dat.size := bodyL_length m
  unfold decM
  rw [if_neg (by omega), if_neg (not_not_intro (made_head m)), if_neg (by omega), if_neg (by omega), h18]
  have e1 : (madeL m).drop (19 + m.dat.size) = bytesOf (sumN (bodyL m)) 2 := by rw [madeL, ← hlen, List.drop_left]
  have e2 : (madeL m).take (19 + m.dat.size) = bodyL m := by rw [madeL, ← hlen, List.take_left]
  rw [e1, e2, if_neg (not_not_intro rfl), msgL_made m h, rightM, if_pos h]

/-- No beginning of what is encoded is decoded. -/
theorem dec_torn (m : Msg) (h : chk m = 0) (k : Nat) (hk : k < (madeL m).length) : (decM ((madeL m).take k)).2 = 20 := by
  have hl := madeL_length m
  have h18 := made_18 m h
  unfold decM
  rw [List.length_take, Nat.min_eq_left (by omega)]
  by_cases h21 : k < 21
  · rw [if_pos h21]
  · have hh : ((madeL m).take k).take 2 = [204, 1] := by rw [List.take_take, Nat.min_eq_left (by omega), made_head]
    have hb : byteAt ((madeL m).take k) 18 = m.dat.size := by
      rw [← h18]
      unfold byteAt
      rw [List.getD_eq_getElem?_getD, List.getD_eq_getElem?_getD, List.getElem?_take, if_pos (by omega)]
    rw [if_neg h21, if_neg (not_not_intro hh), hb, if_pos (by omega)]

/-- What has more behind it is not decoded. -/
theorem dec_long (m : Msg) (h : chk m = 0) (x : UInt8) : (decM (madeL m ++ [x])).2 = 13 := by
  have hl := madeL_length m
  have h18 := made_18 m h
  have hh : (madeL m ++ [x]).take 2 = [204, 1] := by rw [List.take_append_of_le_length (by omega), made_head]
  have hb : byteAt (madeL m ++ [x]) 18 = m.dat.size := by
    rw [← h18]
    unfold byteAt
    rw [List.getD_eq_getElem?_getD, List.getD_eq_getElem?_getD, List.getElem?_append_left (by omega)]
  have hlen : (madeL m ++ [x]).length = 22 + m.dat.size := by simp; omega
  unfold decM
  rw [hlen, if_neg (by omega), if_neg (not_not_intro hh), hb, if_neg (by omega), if_pos (by omega)]

theorem sumN_set (l : List UInt8) (i : Nat) (x : UInt8) (h : i < l.length) : sumN (l.set i x) + (l[i]).toNat = sumN l + x.toNat := by
  induction l generalizing i with
  | nil => simp at h
  | cons b l ih =>
    cases i with
    | zero => rw [List.set_cons_zero, sumN_cons, sumN_cons]; simp; omega
    | succ i =>
      have := ih i (by simpa using h)
      rw [List.set_cons_succ, sumN_cons, sumN_cons, List.getElem_cons_succ]
      omega

/-- With one byte turned into another nothing is accepted. -/
theorem dec_spoilt (m : Msg) (h : chk m = 0) (i : Nat) (hi : i < (madeL m).length) (x : UInt8) (hx : x ≠ (madeL m)[i]) : (decM ((madeL m).set i x)).2 ≠ 0 := by
  have hl := madeL_length m
  have h18 := made_18 m h
  have hhead := made_head m
  have hlen : (bodyL m).length = 19 + m.dat.size := bodyL_length m
  have hxn : x.toNat ≠ ((madeL m)[i]).toNat := fun e => hx (UInt8.toNat_inj.1 e)
  have hlx := x.toNat_lt
  have hlo := ((madeL m)[i]).toNat_lt
  by_cases h2 : i < 2
  · have hne : ¬ (((madeL m).set i x).take 2 = [204, 1]) := by
      intro e
      have e2 : (((madeL m).set i x).take 2)[i]? = ([204, 1] : List UInt8)[i]? := by rw [e]
      rw [← hhead, List.getElem?_take, List.getElem?_take, if_pos h2, if_pos h2, List.getElem?_set, if_pos rfl, if_pos hi, List.getElem?_eq_getElem hi] at e2
      simp only [Option.some.injEq] at e2
      exact hx e2
    unfold decM
    rw [List.length_set, if_neg (by omega), if_pos hne]
    decide
  · have hh : ((madeL m).set i x).take 2 = [204, 1] := by
      rw [← hhead]
      apply List.ext_getElem?
      intro j
      rw [List.getElem?_take, List.getElem?_take]
      by_cases hj : j < 2
      · rw [if_pos hj, if_pos hj, List.getElem?_set, if_neg (by omega)]
      · rw [if_neg hj, if_neg hj]
    by_cases h18' : i = 18
    · subst h18'
      have hb : byteAt ((madeL m).set 18 x) 18 = x.toNat := by
        unfold byteAt
        rw [List.getD_eq_getElem?_getD, List.getElem?_set, if_pos rfl, if_pos hi]
        rfl
      have ho : ((madeL m)[18]).toNat = m.dat.size := by
        rw [← h18]
        unfold byteAt
        rw [List.getD_eq_getElem?_getD, List.getElem?_eq_getElem hi]
        rfl
      unfold decM
      rw [List.length_set, if_neg (by omega), if_neg (not_not_intro hh), hb]
      by_cases hlt : (madeL m).length < 21 + x.toNat
      · rw [if_pos hlt]; decide
      · rw [if_neg hlt, if_pos (by omega)]; decide
    · have hb : byteAt ((madeL m).set i x) 18 = m.dat.size := by
        rw [← h18]
        unfold byteAt
        rw [List.getD_eq_getElem?_getD, List.getD_eq_getElem?_getD, List.getElem?_set, if_neg h18']
      unfold decM
      rw [List.length_set, if_neg (by omega), if_neg (not_not_intro hh), hb, if_neg (by omega), if_neg (by omega)]
      have e1 : (madeL m).drop (19 + m.dat.size) = bytesOf (sumN (bodyL m)) 2 := by rw [madeL, ← hlen, List.drop_left]
      have e2 : (madeL m).take (19 + m.dat.size) = bodyL m := by rw [madeL, ← hlen, List.take_left]
      by_cases hib : i < 19 + m.dat.size
      · have d1 : ((madeL m).set i x).drop (19 + m.dat.size) = bytesOf (sumN (bodyL m)) 2 := by rw [List.drop_set_of_lt hib, e1]
        have hi2 : i < (bodyL m).length := by omega
        have d2 : ((madeL m).set i x).take (19 + m.dat.size) = (bodyL m).set i x := by rw [List.take_set, e2]
        have hs := sumN_set (bodyL m) i x hi2
        have hsame : ((madeL m)[i]'hi).toNat = ((bodyL m)[i]'hi2).toNat := by
          have e0 : (madeL m)[i]? = (bodyL m)[i]? := by rw [madeL, List.getElem?_append_left hi2]
          rw [List.getElem?_eq_getElem hi, List.getElem?_eq_getElem hi2, Option.some.injEq] at e0
          rw [e0]
        rw [d1, d2, if_pos]
        · decide
        · intro e
          have := bytesOf_two_inj _ _ e
          have := sumN_le (bodyL m)
          omega
      · have d2 : ((madeL m).set i x).take (19 + m.dat.size) = bodyL m := by rw [List.take_set_of_le (by omega), e2]
        rw [d2, if_pos]
        · decide
        · intro e
          have e3 : (((madeL m).set i x).drop (19 + m.dat.size))[i - (19 + m.dat.size)]? = ((madeL m).drop (19 + m.dat.size))[i - (19 + m.dat.size)]? := by rw [e, e1]
          rw [List.getElem?_drop, List.getElem?_drop, show 19 + m.dat.size + (i - (19 + m.dat.size)) = i from by omega, List.getElem?_set, if_pos rfl, if_pos hi, List.getElem?_eq_getElem hi] at e3
          simp only [Option.some.injEq] at e3
          exact hx e3

end Go.Proofs.YtdklpmaeajpacaaDoor
