/- -/
import Derived.Test.YtjeigphhepngmaaGreatDoorJp
import Derived.Test.YtjeigphhepngmaaGreatDoorSht
namespace Go.Proofs.YtjeigphhepngmaaGreatDoor
open Go.RowKit
open Go.Lib (hid)
set_option maxHeartbeats 8000000
set_option maxRecDepth 100000
theorem ze0 (p : UInt8 → Bool) : ∀ l : List UInt8, l.dropWhile p = [] ↔ ∀ b ∈ l, p b = true
 | [] => by simp
 | a :: l => by
   have ih := ze0 p l
   cases ha : p a with
   | true => simp [ha, ih]
   | false => simp [ha]
theorem zt1 (l cs : List UInt8) : (Lib.trimS l cs).isEmpty = l.all (cs.contains ·) := by
 rw [Bool.eq_iff_iff, List.isEmpty_iff, List.all_eq_true]
 constructor
 · intro h
   have h1 : ∀ b ∈ Lib.trimRightS l cs, cs.contains b = true := by
    have : (Lib.trimRightS l cs).dropWhile (cs.contains ·) = [] := h
    rw [ze0] at this
    exact this
   have h2 : l.reverse.dropWhile (cs.contains ·) = [] := by
    cases hd : l.reverse.dropWhile (cs.contains ·) with
    | nil => rfl
    | cons b r =>
      have hn := List.head_dropWhile_not (cs.contains ·) (l := l.reverse) (by rw [hd]; simp)
      simp only [hd, List.head_cons] at hn
      have hm : b ∈ Lib.trimRightS l cs := by
       show b ∈ (l.reverse.dropWhile (cs.contains ·)).reverse
       rw [hd]
       simp
      rw [h1 b hm] at hn
      cases hn
   rw [ze0] at h2
   exact fun b hb => h2 b (by simpa using hb)
 intro h
 have h2 : l.reverse.dropWhile (cs.contains ·) = [] := by
   rw [ze0]
   exact fun b hb => h b (by simpa using hb)
 show ((l.reverse.dropWhile (cs.contains ·)).reverse).dropWhile (cs.contains ·) = []
 rw [h2]
 rfl
def nameSet : ByteArray := ⟨#[97, 98, 99, 100, 101, 102, 103, 104, 105, 106, 107, 108, 109, 110, 111, 112, 113, 114, 115, 116, 117, 118, 119, 120, 121, 122, 48, 49, 50, 51, 52, 53, 54, 55, 56, 57, 95]⟩
theorem zo9 (b : UInt8) : nameSet.data.toList.contains b = nameCh b := by
 have h : ∀ n, n < 256 → nameSet.data.toList.contains (UInt8.ofNat n) = nameCh (UInt8.ofNat n) := by decide +kernel
 have := h b.toNat b.toNat_lt
 simpa using this
theorem zyd : ∀ (j : Nat) b, nameSet.data.toList[j]? = some b → b.toNat < 128 := by
 intro j b h
 have hm := List.mem_of_getElem? h
 have : ∀ x ∈ nameSet.data.toList, x.toNat < 128 := by decide
 exact this b hm
theorem zmf (l : List UInt8) : (Lib.trimS l nameSet.data.toList).isEmpty = l.all nameCh := by
 rw [zt1]
 congr 1
 funext b
 exact zo9 b
theorem zv9 {b : UInt8} (h : letterB b = true) : nameCh b = true := by simp [nameCh, h]
theorem zsl {s : ByteArray} (h : 0 < s.size) : ∃ b r, s.data.toList = b :: r ∧ s[0] = b ∧ nameB s = (letterB b && r.all nameCh && decide (s.size ≤ 24)) := by
 cases hl : s.data.toList with
 | nil => rw [show s.size = s.data.toList.length from by simp, hl] at h; simp at h
 | cons b r =>
   refine ⟨b, r, rfl, ?_, ?_⟩
   · have := zel s 0 h
     rw [hl] at this
     exact this.symm
   unfold nameB nameL
   rw [hl]
theorem zmc (l : List UInt8) : (⟨l.toArray⟩ : ByteArray).toList.isEmpty = l.isEmpty := by rw [ByteArray.toList_eq]
theorem zij (s : ByteArray) (w : World) (hs : s.size ≤ 9223372036854775806) :
   Calls Tryz.prog 301 #[.string s] w fun e w' => e = .returned (.bool (nameB s)) ∧ Below w.heap.size w w' := by
 have hT := fun W => Tryz.strings_Trim_ascii s nameSet W (by omega) (by decide) zyd
 by_cases h0 : s.size = 0
 · have he : s = ⟨#[]⟩ := by apply ByteArray.ext; exact Array.eq_empty_of_size_eq_zero h0
   subst he
   clear hT
   go_enter Tryz.func301, Tryz.ntmps301
   go_wp2
   go_ret
   exact ⟨rfl, bel⟩
 have hne := zd1 h0
 have hp : 0 < s.size := by omega
 obtain ⟨b, l, hl, hb, hN⟩ := zsl hp
 have hz : ((s.size : Int) == 0) = false := by simpa using h0
 obtain ⟨r, hr⟩ : ∃ r, nameB s = r := ⟨_, rfl⟩
 rw [hr]
 rw [hr] at hN
 have HN := hid hN
 clear hr hN
 by_cases h24 : 24 < s.size
 · have h25 : (24 : Int) < (s.size : Int) := by omega
   have hq : r = false := by rw [HN.out]; simp; omega
   subst hq
   clear hT
   go_enter Tryz.func301, Tryz.ntmps301
   go_wp2
   go_ret
   exact ⟨rfl, bel⟩
 have h25 : ¬ (24 : Int) < (s.size : Int) := by omega
 by_cases h1 : letterB b = true
 · have hx : 97 ≤ b.toNat ∧ b.toNat ≤ 122 := by simpa [letterB] using h1
   have h3 : ¬ ((s[0].toNat : Int)) < 97 := by rw [hb]; omega
   have h4 : ¬ 122 < ((s[0].toNat : Int)) := by rw [hb]; omega
   have hq : r = (Lib.trimS s.data.toList nameSet.data.toList).isEmpty := by
    rw [HN.out, zmf, hl, List.all_cons, zv9 h1, h1]
    simp; omega
   have HQ := hid hq
   obtain ⟨t, ht⟩ : ∃ t, Lib.trimS s.data.toList nameSet.data.toList = t := ⟨_, rfl⟩
   rw [ht] at hT HQ
   have HT := hid (show ∀ W : World, Calls Tryz.prog 330 #[.string s, .string ⟨#[97, 98, 99, 100, 101, 102, 103, 104, 105, 106, 107, 108, 109, 110, 111, 112, 113, 114, 115, 116, 117, 118, 119, 120, 121, 122, 48, 49, 50, 51, 52, 53, 54, 55, 56, 57, 95]⟩] W fun e w' => e = .returned (.string ⟨t.toArray⟩) ∧ Below W.heap.size W w' from hT)
   have HE := hid (zmc t)
   clear hT ht hl hb h1 hx hq HN
   go_enter Tryz.func301, Tryz.ntmps301
   go_wp2_with fail
   refine (HT.out _).mono ?_
   rintro e w1 ⟨rfl, hb1⟩
   go_wp2
   go_ret
   exact ⟨zac (by rw [HQ.out, ← HE.out]), hb1⟩
 have hx : b.toNat < 97 ∨ 122 < b.toNat := by simp [letterB] at h1; omega
 have hq : r = false := by rw [HN.out]; simp [h1]
 subst hq
 clear hT
 by_cases h3 : ((s[0].toNat : Int)) < 97
 · clear hx h1 hb hl
   go_enter Tryz.func301, Tryz.ntmps301
   go_wp2
   go_ret
   exact ⟨rfl, bel⟩
 have h4 : 122 < ((s[0].toNat : Int)) := by rw [hb] at h3 ⊢; omega
 clear hx h1 hb hl
 go_enter Tryz.func301, Tryz.ntmps301
 go_wp2
 go_ret
 exact ⟨rfl, bel⟩
def nmAt (k : Nat) (b : UInt8) : Bool := if k = 0 then letterB b else nameCh b
theorem za4 (k : Nat) (b : UInt8) : nmAt k b = decide ((97 ≤ b.toNat ∧ b.toNat ≤ 122) ∨ (¬ k = 0 ∧ (b.toNat = 95 ∨ (48 ≤ b.toNat ∧ b.toNat ≤ 57)))) := by
 have e : (b == 95) = decide (b.toNat = 95) := by
  rw [Bool.eq_iff_iff, decide_eq_true_eq, beq_iff_eq]
  exact ⟨fun h => by rw [h]; rfl, fun h => UInt8.toNat_inj.1 h⟩
 unfold nmAt nameCh letterB
 rw [e]
 by_cases h : k = 0
 · simp [h]
 simp [h]
def nmOk : List UInt8 → Bool
 | [] => true
 | b :: r => letterB b && r.all nameCh
theorem zcu {s : ByteArray} {k : Nat} (h : k < s.size) (hf : nmOk (s.data.toList.take k) = true) (hb : nmAt k s[k] = true) : nmOk (s.data.toList.take (k + 1)) = true := by
 rw [zc2 s k h]
 cases hl : s.data.toList.take k with
 | nil =>
   have hk : k = 0 := by
    have := congrArg List.length hl
    rw [List.length_take] at this
    simp at this
    rcases this with h1 | h1
    · exact h1
    rw [show s.size = s.data.toList.length from by simp] at h; simp [h1] at h
   subst hk
   simpa [nmOk, nmAt] using hb
 | cons b r =>
   rw [hl] at hf
   have hk : k ≠ 0 := by rintro rfl; simp at hl
   rw [nmAt, if_neg hk] at hb
   simp only [nmOk, Bool.and_eq_true] at hf
   simp [nmOk, hf.1, hf.2, hb]
theorem zbw {s : ByteArray} {k : Nat} (h : k < s.size) (hb : nmAt k s[k] = false) : nameB s = false := by
 have hlk : s.data.toList[k]? = some s[k] := by
   have h2 : k < s.data.toList.length := by simpa using h
   rw [List.getElem?_eq_getElem h2]
   rfl
 unfold nameB
 cases hl : s.data.toList with
 | nil => rw [hl] at hlk; simp at hlk
 | cons b r =>
   rw [hl] at hlk
   cases k with
   | zero =>
     simp at hlk
     rw [nmAt, if_pos rfl] at hb
     simp [nameL, hlk, hb]
   | succ j =>
     rw [nmAt, if_neg (by omega)] at hb
     simp only [List.getElem?_cons_succ] at hlk
     have : r.all nameCh = false := by
      rw [List.all_eq_false]
      exact ⟨_, List.mem_of_getElem? hlk, by simp [hb]⟩
     simp [nameL, this]
theorem zh3 {s : ByteArray} (hf : nmOk (s.data.toList.take s.size) = true) (h0 : 0 < s.size) : nameB s = decide (s.size ≤ 24) := by
 rw [List.take_of_length_le (by simp)] at hf
 unfold nameB
 cases hl : s.data.toList with
 | nil => rw [show s.size = s.data.toList.length from by simp, hl] at h0; simp at h0
 | cons b r =>
   rw [hl] at hf
   rw [show nameL (b :: r) = nmOk (b :: r) from rfl, hf, Bool.true_and]
theorem zf1 (s : ByteArray) (w : World) (hs : s.size ≤ 9223372036854775806) :
  Calls Tryz.prog 322 #[.string s] w fun e w' => e = .returned (.bool (nameB s)) ∧ w = w' := by
 obtain ⟨rr, hrr⟩ : ∃ rr, nameB s = rr := ⟨_, rfl⟩
 go_enter Tryz.func322, Tryz.ntmps322
 go_wp2
 go_loop [3] (fun i => ∃ k : Nat, k ≤ s.size ∧ i = .int .i64 k ∧ Hid (nmOk (s.data.toList.take k) = true)) (fun i => s.size - (intOf i).toNat)
 case atStart => exact ⟨0, Nat.zero_le _, rfl, by simp [Hid, nmOk]⟩
 case round =>
  clear hrr
  obtain ⟨k, hk, rfl, hf⟩ := hrel
  by_cases hlt2 : k < s.size
  · have hlt3 : (k : Int) < (s.size : Int) := by omega
    obtain ⟨x, hx⟩ : ∃ x, s[k] = x := ⟨_, rfl⟩
    obtain ⟨y, hy⟩ : ∃ y : Int, (x.toNat : Int) = y := ⟨_, rfl⟩
    have HX := hid hx
    have HY := hid hy
    by_cases a1 : y < 97
    · have a2 : ¬ 97 ≤ y := by omega
      by_cases k0 : k = 0
      · subst k0
        have hbad := hid (zbw hlt2 (by rw [HX.out, za4, decide_eq_false_iff_not]; have := HY.out; omega))
        go_wp2
        go_ret
        exact ⟨zac (by rw [hbad.out]), rfl⟩
      have k1 : ((k : Int) == 0) = false := by simp; omega
      by_cases a3 : y = 95
      · subst a3
        have hgo := hid (zcu hlt2 hf.out (by rw [HX.out, za4, decide_eq_true_eq]; have := HY.out; omega))
        go_wp2
        go_round
        case rel => exact ⟨k + 1, by omega, by go_num, hgo.out⟩
        case measure => simp [intOf]; omega
      have a4 : (y == 95) = false := by simpa using a3
      by_cases a5 : y < 48
      · have hbad := hid (zbw hlt2 (by rw [HX.out, za4, decide_eq_false_iff_not]; have := HY.out; omega))
        go_wp2
        go_ret
        exact ⟨zac (by rw [hbad.out]), rfl⟩
      by_cases a6 : 57 < y
      · have hbad := hid (zbw hlt2 (by rw [HX.out, za4, decide_eq_false_iff_not]; have := HY.out; omega))
        go_wp2
        go_ret
        exact ⟨zac (by rw [hbad.out]), rfl⟩
      have hgo := hid (zcu hlt2 hf.out (by rw [HX.out, za4, decide_eq_true_eq]; have := HY.out; omega))
      go_wp2
      go_round
      case rel => exact ⟨k + 1, by omega, by go_num, hgo.out⟩
      case measure => simp [intOf]; omega
    have a2 : 97 ≤ y := by omega
    by_cases b1 : y ≤ 122
    · have hgo := hid (zcu hlt2 hf.out (by rw [HX.out, za4, decide_eq_true_eq]; have := HY.out; omega))
      go_wp2
      go_round
      case rel => exact ⟨k + 1, by omega, by go_num, hgo.out⟩
      case measure => simp [intOf]; omega
    have b2 : 122 < y := by omega
    have b3 : ¬ y < 48 := by omega
    have b4 : 57 < y := by omega
    have b5 : (y == 95) = false := by simp; omega
    by_cases k0 : k = 0
    · subst k0
      have hbad := hid (zbw hlt2 (by rw [HX.out, za4, decide_eq_false_iff_not]; have := HY.out; omega))
      go_wp2
      go_ret
      exact ⟨zac (by rw [hbad.out]), rfl⟩
    have k1 : ((k : Int) == 0) = false := by simp; omega
    have hbad := hid (zbw hlt2 (by rw [HX.out, za4, decide_eq_false_iff_not]; have := HY.out; omega))
    go_wp2
    go_ret
    exact ⟨zac (by rw [hbad.out]), rfl⟩
  obtain rfl : k = s.size := by omega
  by_cases h0 : 0 < s.size
  · have h1 : (1 : Int) ≤ (s.size : Int) := by omega
    have hen := hid (zh3 hf.out h0)
    skip
    by_cases h24 : (s.size : Int) ≤ 24
    · go_wp2
      go_ret
      exact ⟨zac (by rw [hen.out]; simp; omega), rfl⟩
    go_wp2
    go_ret
    exact ⟨zac (by rw [hen.out]; simp; omega), rfl⟩
  have h2 : s = ⟨#[]⟩ := by apply ByteArray.ext; exact Array.eq_empty_of_size_eq_zero (by have : s.data.size = s.size := rfl; omega)
  have h1 : ¬ (1 : Int) ≤ (s.size : Int) := by omega
  have h3 : nameB s = false := by rw [h2]; rfl
  have H3 := hid h3
  skip
  clear h2 h3
  go_wp2
  go_ret
  exact ⟨zac (by rw [H3.out]), rfl⟩
theorem zpe (s : ByteArray) (w : World) (hs : s.size ≤ 9223372036854775806) :
  Calls Tryz.prog 345 #[.string s] w fun e w' => e = .returned (.bool (nameB s)) ∧ Below w.heap.size w w' := by
 obtain ⟨W1, cap, hc1, hcel, hb, hlt⟩ := zf8 s w
 have HC := hid hcel
 have HB := hid hb
 clear hcel hb
 go_enter Tryz.func345, Tryz.ntmps345
 go_wp2
 go_loopw [3, 4, 5, 9] (fun _ _ _ i wr => ∃ k : Nat, k ≤ s.size ∧ i = .int .i64 k ∧ Hid (nmOk (s.data.toList.take k) = true) ∧ W1 = wr) (fun _ _ _ i _ => s.size - (intOf i).toNat)
 case atStart => exact ⟨0, Nat.zero_le _, rfl, by simp [Hid, nmOk], rfl⟩
 case round =>
  obtain ⟨k, hk, rfl, hf, rfl⟩ := hrel
  by_cases hlt2 : k < s.size
  · have hlt3 : (k : Int) < (s.size : Int) := by omega
    obtain ⟨c0, -⟩ := HC.out k hlt2
    rw [zel s k hlt2] at c0
    obtain ⟨x, hx⟩ : ∃ x, s[k] = x := ⟨_, rfl⟩
    rw [hx] at c0
    obtain ⟨y, hy⟩ : ∃ y : Int, (x.toNat : Int) = y := ⟨_, rfl⟩
    rw [hy] at c0
    have HX := hid hx
    have HY := hid hy
    clear hx hy hc1
    by_cases a1 : y < 97
    · have a2 : ¬ 97 ≤ y := by omega
      by_cases k0 : k = 0
      · subst k0
        have hbad := hid (zbw hlt2 (by rw [HX.out, za4, decide_eq_false_iff_not]; have := HY.out; omega))
        go_wp2
        go_ret
        exact ⟨zac (by rw [hbad.out]), HB.out⟩
      have k1 : ((k : Int) == 0) = false := by simp; omega
      by_cases a3 : y = 95
      · subst a3
        have hgo := hid (zcu hlt2 hf.out (by rw [HX.out, za4, decide_eq_true_eq]; have := HY.out; omega))
        go_wp2
        go_roundw
        case rel => exact ⟨k + 1, by omega, by go_num, hgo.out, by first | rfl | trivial⟩
        case measure => simp [intOf]; omega
      have a4 : (y == 95) = false := by simpa using a3
      by_cases a5 : y < 48
      · have hbad := hid (zbw hlt2 (by rw [HX.out, za4, decide_eq_false_iff_not]; have := HY.out; omega))
        go_wp2
        go_ret
        exact ⟨zac (by rw [hbad.out]), HB.out⟩
      by_cases a6 : 57 < y
      · have hbad := hid (zbw hlt2 (by rw [HX.out, za4, decide_eq_false_iff_not]; have := HY.out; omega))
        go_wp2
        go_ret
        exact ⟨zac (by rw [hbad.out]), HB.out⟩
      have hgo := hid (zcu hlt2 hf.out (by rw [HX.out, za4, decide_eq_true_eq]; have := HY.out; omega))
      go_wp2
      go_roundw
      case rel => exact ⟨k + 1, by omega, by go_num, hgo.out, by first | rfl | trivial⟩
      case measure => simp [intOf]; omega
    have a2 : 97 ≤ y := by omega
    by_cases b1 : y ≤ 122
    · have hgo := hid (zcu hlt2 hf.out (by rw [HX.out, za4, decide_eq_true_eq]; have := HY.out; omega))
      go_wp2
      go_roundw
      case rel => exact ⟨k + 1, by omega, by go_num, hgo.out, by first | rfl | trivial⟩
      case measure => simp [intOf]; omega
    have b2 : 122 < y := by omega
    have b3 : ¬ y < 48 := by omega
    have b4 : 57 < y := by omega
    have b5 : (y == 95) = false := by simp; omega
    by_cases k0 : k = 0
    · subst k0
      have hbad := hid (zbw hlt2 (by rw [HX.out, za4, decide_eq_false_iff_not]; have := HY.out; omega))
      go_wp2
      go_ret
      exact ⟨zac (by rw [hbad.out]), HB.out⟩
    have k1 : ((k : Int) == 0) = false := by simp; omega
    have hbad := hid (zbw hlt2 (by rw [HX.out, za4, decide_eq_false_iff_not]; have := HY.out; omega))
    go_wp2
    go_ret
    exact ⟨zac (by rw [hbad.out]), HB.out⟩
  obtain rfl : k = s.size := by omega
  by_cases h0 : 0 < s.size
  · have h1 : (1 : Int) ≤ (s.size : Int) := by omega
    have hen := hid (zh3 hf.out h0)
    have hne := zd1 (s := s) (by omega)
    by_cases h24 : (s.size : Int) ≤ 24
    · go_wp2
      go_ret
      exact ⟨zac (by rw [hen.out]; simp; omega), HB.out⟩
    go_wp2
    go_ret
    exact ⟨zac (by rw [hen.out]; simp; omega), HB.out⟩
  have h2 : s = ⟨#[]⟩ := by apply ByteArray.ext; exact Array.eq_empty_of_size_eq_zero (by have : s.data.size = s.size := rfl; omega)
  have h1 : ¬ (1 : Int) ≤ (s.size : Int) := by omega
  have h3 : nameB s = false := by rw [h2]; rfl
  have H3 := hid h3
  have hne : s.toList.isEmpty = true := by rw [h2, ByteArray.toList_eq]; rfl
  clear h2 h3
  go_wp2
  go_ret
  exact ⟨zac (by rw [H3.out]), HB.out⟩
theorem zuz (K : Nat) (caps : Array Value) (p : Int → Bool) (v : Value) (l : List Int) (w : World) (hv : ListAt 1 intC w v l) (he : ∀ args W, (callFunc K args).run Tryz.prog W = .ok (.enter K args) W)
  (H : ∀ d ∈ l, ∀ W, Below w.heap.size w W → Calls Tryz.prog K (#[.int .i64 d] ++ caps) W fun e w' => e = .returned (.bool (p d)) ∧ Below W.heap.size W w') :
  Calls Tryz.prog 367 #[v, .func (.func K) #[] caps] w fun e w' => (∃ n, e = .returned (.int .i64 n) ∧ decide (0 ≤ n) = l.any p) ∧ Below w.heap.size w w' := by
 obtain ⟨a, cap, rfl⟩ := hv.shape
 have hml := hv.few
 have HV := hid hv
 have HH := hid H
 clear hv H
 go_enter Tryz.func367, Tryz.ntmps367
 go_wp2
 go_loopw [5, 8] (fun _ i wr => ∃ k : Nat, k ≤ l.length ∧ i = .int .i64 k ∧ Hid ((l.take k).any p = false ∧ Below w.heap.size w wr)) (fun _ i _ => l.length - (intOf i).toNat)
 case atStart => exact ⟨0, Nat.zero_le _, rfl, hid ⟨rfl, Below.refl _ _⟩⟩
 case round =>
  obtain ⟨k, hk, rfl, hh⟩ := hrel
  have hbs := hh.out.2.size
  by_cases hlt : k < l.length
  · have hlt3 : (k : Int) < (l.length : Int) := by omega
    obtain ⟨d, hd⟩ : ∃ d, l[k]? = some d := ⟨_, List.getElem?_eq_getElem hlt⟩
    obtain ⟨g, off, cap', he', hg, hc⟩ := HV.out.at_ (by decide) hd
    cases he'
    have e0 : wr.cell? ⟨g, off + k, none⟩ = some (.int .i64 d) := by have h9 := hc wr hh.out.2 0 (by decide); simpa [intC] using h9
    have hgr : g < wr.heap.size := by omega
    obtain ⟨b, hb⟩ : ∃ b, p d = b := ⟨_, rfl⟩
    have C := HH.out d (List.mem_of_getElem? hd) wr hh.out.2
    rw [hb] at C
    have HC := hid C
    have HB := hid hb
    have HD := hid hd
    clear hd hc hb C
    cases b with
    | true =>
      have hall := hid (show l.any p = true from by rw [List.any_eq_true]; exact ⟨d, List.mem_of_getElem? HD.out, HB.out⟩)
      go_wp2_with fail
      refine HC.out.mono ?_
      rintro e w1 ⟨rfl, hb1⟩
      go_wp2
      go_ret
      exact ⟨⟨(k : Int), rfl, by rw [hall.out]; simp⟩, hh.out.2.trans (hb1.mono hbs)⟩
    | false =>
      have hnx := hid (show (l.take (k + 1)).any p = false from by rw [zaf HD.out, List.any_append, hh.out.1]; simp [HB.out])
      go_wp2_with fail
      refine HC.out.mono ?_
      rintro e w1 ⟨rfl, hb1⟩
      go_wp2
      go_roundw
      case rel => exact ⟨k + 1, by omega, by go_num, hid ⟨hnx.out, hh.out.2.trans (hb1.mono hbs)⟩⟩
      case measure => simp [intOf]; omega
  obtain rfl : k = l.length := by omega
  have hno := hid (show l.any p = false from by have := hh.out.1; rwa [List.take_length] at this)
  go_wp2
  go_ret
  exact ⟨⟨-1, rfl, by rw [hno.out]; rfl⟩, hh.out.2⟩
theorem zd8 (K : Nat) (caps : Array Value) (p : Int → Bool) (v : Value) (l : List Int) (w : World) (hv : ListAt 1 intC w v l) (he : ∀ args W, (callFunc K args).run Tryz.prog W = .ok (.enter K args) W)
   (H : ∀ d ∈ l, ∀ W, Below w.heap.size w W → Calls Tryz.prog K (#[.int .i64 d] ++ caps) W fun e w' => e = .returned (.bool (p d)) ∧ Below W.heap.size W w') :
   Calls Tryz.prog 336 #[v, .func (.func K) #[] caps] w fun e w' => e = .returned (.bool (l.any p)) ∧ Below w.heap.size w w' := by
 obtain ⟨a, cap, rfl⟩ := hv.shape
 have C := hid (zuz K caps p _ l w hv he H)
 clear hv H
 go_enter Tryz.func336, Tryz.ntmps336
 go_wp2_with fail
 refine C.out.mono ?_
 rintro e w1 ⟨⟨n, rfl, hn⟩, hb⟩
 have HN := hid hn
 clear hn
 by_cases h0 : 0 ≤ n
 · go_wp2
   go_ret
   exact ⟨zac (by rw [← HN.out] <;> simp [h0]), hb⟩
 go_wp2
 go_ret
 exact ⟨zac (by rw [← HN.out] <;> simp [h0]), hb⟩
theorem zmi (K : Nat) (caps : Array Value) (p : SlotD → Bool) (v : Value) (l : List SlotD) (w : World) (hv : ListAt 3 slotA w v l) (he : ∀ args W, (callFunc K args).run Tryz.prog W = .ok (.enter K args) W)
  (H : ∀ d ∈ l, ∀ W, Below w.heap.size w W → Calls Tryz.prog K (#[.agg #[.string d.name, .int .i64 d.lo, .int .i64 d.hi]] ++ caps) W fun e w' => e = .returned (.bool (p d)) ∧ Below W.heap.size W w') :
  Calls Tryz.prog 399 #[v, .func (.func K) #[] caps] w fun e w' => (∃ n, e = .returned (.int .i64 n) ∧ decide (0 ≤ n) = l.any p) ∧ Below w.heap.size w w' := by
 obtain ⟨a, cap, rfl⟩ := hv.shape
 have hml := hv.few
 have HV := hid hv
 have HH := hid H
 clear hv H
 go_enter Tryz.func399, Tryz.ntmps399
 go_wp2
 go_loopw [5, 8] (fun _ i wr => ∃ k : Nat, k ≤ l.length ∧ i = .int .i64 k ∧ Hid ((l.take k).any p = false ∧ Below w.heap.size w wr)) (fun _ i _ => l.length - (intOf i).toNat)
 case atStart => exact ⟨0, Nat.zero_le _, rfl, hid ⟨rfl, Below.refl _ _⟩⟩
 case round =>
  obtain ⟨k, hk, rfl, hh⟩ := hrel
  have hbs := hh.out.2.size
  by_cases hlt : k < l.length
  · have hlt3 : (k : Int) < (l.length : Int) := by omega
    obtain ⟨d, hd⟩ : ∃ d, l[k]? = some d := ⟨_, List.getElem?_eq_getElem hlt⟩
    obtain ⟨g, off, cap', he', hg, hc⟩ := HV.out.at_ (by decide) hd
    cases he'
    have e0 : wr.cell? ⟨g, off + k * 3, none⟩ = some (.string d.name) := by have h9 := hc wr hh.out.2 0 (by decide); simpa [slotA] using h9
    have e1 : wr.cell? ⟨g, off + k * 3 + 1, none⟩ = some (.int .i64 d.lo) := by have h9 := hc wr hh.out.2 1 (by decide); simpa [slotA] using h9
    have e2 : wr.cell? ⟨g, off + k * 3 + 2, none⟩ = some (.int .i64 d.hi) := by have h9 := hc wr hh.out.2 2 (by decide); simpa [slotA] using h9
    have hgr : g < wr.heap.size := by omega
    obtain ⟨b, hb⟩ : ∃ b, p d = b := ⟨_, rfl⟩
    have C := HH.out d (List.mem_of_getElem? hd) wr hh.out.2
    rw [hb] at C
    have HC := hid C
    have HB := hid hb
    have HD := hid hd
    clear hd hc hb C
    cases b with
    | true =>
      have hall := hid (show l.any p = true from by rw [List.any_eq_true]; exact ⟨d, List.mem_of_getElem? HD.out, HB.out⟩)
      go_wp2_with fail
      refine HC.out.mono ?_
      rintro e w1 ⟨rfl, hb1⟩
      go_wp2
      go_ret
      exact ⟨⟨(k : Int), rfl, by rw [hall.out]; simp⟩, hh.out.2.trans (hb1.mono hbs)⟩
    | false =>
      have hnx := hid (show (l.take (k + 1)).any p = false from by rw [zaf HD.out, List.any_append, hh.out.1]; simp [HB.out])
      go_wp2_with fail
      refine HC.out.mono ?_
      rintro e w1 ⟨rfl, hb1⟩
      go_wp2
      go_roundw
      case rel => exact ⟨k + 1, by omega, by go_num, hid ⟨hnx.out, hh.out.2.trans (hb1.mono hbs)⟩⟩
      case measure => simp [intOf]; omega
  obtain rfl : k = l.length := by omega
  have hno := hid (show l.any p = false from by have := hh.out.1; rwa [List.take_length] at this)
  go_wp2
  go_ret
  exact ⟨⟨-1, rfl, by rw [hno.out]; rfl⟩, hh.out.2⟩
theorem zs5 (K : Nat) (caps : Array Value) (p : SlotD → Bool) (v : Value) (l : List SlotD) (w : World) (hv : ListAt 3 slotA w v l) (he : ∀ args W, (callFunc K args).run Tryz.prog W = .ok (.enter K args) W)
   (H : ∀ d ∈ l, ∀ W, Below w.heap.size w W → Calls Tryz.prog K (#[.agg #[.string d.name, .int .i64 d.lo, .int .i64 d.hi]] ++ caps) W fun e w' => e = .returned (.bool (p d)) ∧ Below W.heap.size W w') :
   Calls Tryz.prog 392 #[v, .func (.func K) #[] caps] w fun e w' => e = .returned (.bool (l.any p)) ∧ Below w.heap.size w w' := by
 obtain ⟨a, cap, rfl⟩ := hv.shape
 have C := hid (zmi K caps p _ l w hv he H)
 clear hv H
 go_enter Tryz.func392, Tryz.ntmps392
 go_wp2_with fail
 refine C.out.mono ?_
 rintro e w1 ⟨⟨n, rfl, hn⟩, hb⟩
 have HN := hid hn
 clear hn
 by_cases h0 : 0 ≤ n
 · go_wp2
   go_ret
   exact ⟨zac (by rw [← HN.out] <;> simp [h0]), hb⟩
 go_wp2
 go_ret
 exact ⟨zac (by rw [← HN.out] <;> simp [h0]), hb⟩
theorem zul (K : Nat) (caps : Array Value) (p : FixD → Bool) (v : Value) (l : List FixD) (w : World) (hv : ListAt 7 fixA w v l) (he : ∀ args W, (callFunc K args).run Tryz.prog W = .ok (.enter K args) W)
  (H : ∀ d ∈ l, ∀ W, Below w.heap.size w W → Calls Tryz.prog K (#[.agg #[.int .i64 d.ch, .int .i64 d.part, .string d.prof, .int .i64 d.uni, .int .i64 d.addr, .int .i64 d.phase, .string d.cable]] ++ caps) W fun e w' => e = .returned (.bool (p d)) ∧ Below W.heap.size W w') :
  Calls Tryz.prog 369 #[v, .func (.func K) #[] caps] w fun e w' => (∃ n, e = .returned (.int .i64 n) ∧ decide (0 ≤ n) = l.any p) ∧ Below w.heap.size w w' := by
 obtain ⟨a, cap, rfl⟩ := hv.shape
 have hml := hv.few
 have HV := hid hv
 have HH := hid H
 clear hv H
 go_enter Tryz.func369, Tryz.ntmps369
 go_wp2
 go_loopw [5, 8] (fun _ i wr => ∃ k : Nat, k ≤ l.length ∧ i = .int .i64 k ∧ Hid ((l.take k).any p = false ∧ Below w.heap.size w wr)) (fun _ i _ => l.length - (intOf i).toNat)
 case atStart => exact ⟨0, Nat.zero_le _, rfl, hid ⟨rfl, Below.refl _ _⟩⟩
 case round =>
  obtain ⟨k, hk, rfl, hh⟩ := hrel
  have hbs := hh.out.2.size
  by_cases hlt : k < l.length
  · have hlt3 : (k : Int) < (l.length : Int) := by omega
    obtain ⟨d, hd⟩ : ∃ d, l[k]? = some d := ⟨_, List.getElem?_eq_getElem hlt⟩
    obtain ⟨g, off, cap', he', hg, hc⟩ := HV.out.at_ (by decide) hd
    cases he'
    have e0 : wr.cell? ⟨g, off + k * 7, none⟩ = some (.int .i64 d.ch) := by have h9 := hc wr hh.out.2 0 (by decide); simpa [fixA] using h9
    have e1 : wr.cell? ⟨g, off + k * 7 + 1, none⟩ = some (.int .i64 d.part) := by have h9 := hc wr hh.out.2 1 (by decide); simpa [fixA] using h9
    have e2 : wr.cell? ⟨g, off + k * 7 + 2, none⟩ = some (.string d.prof) := by have h9 := hc wr hh.out.2 2 (by decide); simpa [fixA] using h9
    have e3 : wr.cell? ⟨g, off + k * 7 + 3, none⟩ = some (.int .i64 d.uni) := by have h9 := hc wr hh.out.2 3 (by decide); simpa [fixA] using h9
    have e4 : wr.cell? ⟨g, off + k * 7 + 4, none⟩ = some (.int .i64 d.addr) := by have h9 := hc wr hh.out.2 4 (by decide); simpa [fixA] using h9
    have e5 : wr.cell? ⟨g, off + k * 7 + 5, none⟩ = some (.int .i64 d.phase) := by have h9 := hc wr hh.out.2 5 (by decide); simpa [fixA] using h9
    have e6 : wr.cell? ⟨g, off + k * 7 + 6, none⟩ = some (.string d.cable) := by have h9 := hc wr hh.out.2 6 (by decide); simpa [fixA] using h9
    have hgr : g < wr.heap.size := by omega
    obtain ⟨b, hb⟩ : ∃ b, p d = b := ⟨_, rfl⟩
    have C := HH.out d (List.mem_of_getElem? hd) wr hh.out.2
    rw [hb] at C
    have HC := hid C
    have HB := hid hb
    have HD := hid hd
    clear hd hc hb C
    cases b with
    | true =>
      have hall := hid (show l.any p = true from by rw [List.any_eq_true]; exact ⟨d, List.mem_of_getElem? HD.out, HB.out⟩)
      go_wp2_with fail
      refine HC.out.mono ?_
      rintro e w1 ⟨rfl, hb1⟩
      go_wp2
      go_ret
      exact ⟨⟨(k : Int), rfl, by rw [hall.out]; simp⟩, hh.out.2.trans (hb1.mono hbs)⟩
    | false =>
      have hnx := hid (show (l.take (k + 1)).any p = false from by rw [zaf HD.out, List.any_append, hh.out.1]; simp [HB.out])
      go_wp2_with fail
      refine HC.out.mono ?_
      rintro e w1 ⟨rfl, hb1⟩
      go_wp2
      go_roundw
      case rel => exact ⟨k + 1, by omega, by go_num, hid ⟨hnx.out, hh.out.2.trans (hb1.mono hbs)⟩⟩
      case measure => simp [intOf]; omega
  obtain rfl : k = l.length := by omega
  have hno := hid (show l.any p = false from by have := hh.out.1; rwa [List.take_length] at this)
  go_wp2
  go_ret
  exact ⟨⟨-1, rfl, by rw [hno.out]; rfl⟩, hh.out.2⟩
theorem zf4 (n : Int) (w : World) : Calls Tryz.prog 381 #[.int .i64 n] w fun e w' => e = .returned (.bool (levB n)) ∧ w = w' := by
 by_cases h1 : 0 ≤ n
 · by_cases h2 : n ≤ 65535
   · have hr : levB n = true := by simp [levB, h1, h2]
     rw [hr]
     clear hr
     go_enter Tryz.func381, Tryz.ntmps381
     go_wp2
     go_ret
     exact ⟨rfl, rfl⟩
   have hr : levB n = false := by simp [levB, h2]
   rw [hr]
   clear hr
   go_enter Tryz.func381, Tryz.ntmps381
   go_wp2
   go_ret
   exact ⟨rfl, rfl⟩
 have hr : levB n = false := by simp [levB, h1]
 rw [hr]
 clear hr
 go_enter Tryz.func381, Tryz.ntmps381
 go_wp2
 go_ret
 exact ⟨rfl, rfl⟩
theorem zec (x y : ByteArray) : (x.toList == y.toList) = decide (x = y) := by
 rw [ByteArray.toList_eq, ByteArray.toList_eq, Bool.eq_iff_iff, beq_iff_eq, decide_eq_true_eq]
 exact ⟨fun h => ByteArray.ext (Array.toList_inj.1 h), fun h => by rw [h]⟩
def wh3 (d : SlotD) : Bool := !levB d.lo || (!levB d.hi || decide (d.hi < d.lo))
def wh4 (p : List SlotD) (d : SlotD) : Bool := match p.getLast? with | none => false | some q => decide (d.lo ≤ q.hi)
theorem zol (q : Nat) (d : SlotD) (w : World) (h : RowAt w q 273 #[.string d.name, .int .i64 d.lo, .int .i64 d.hi]) (hs : d.name.size ≤ 9223372036854775806) :
  Calls Tryz.prog 390 #[.pointer (some ⟨q, 0, none⟩)] w fun e w' => e = .returned (.bool (!nameB d.name)) ∧ Below w.heap.size w w' := by
 obtain ⟨x1, x2, x3, x4, x5, x6⟩ := zaa h
 have C := hid (zij d.name w hs)
 generalize nameB d.name = b at C ⊢
 go_enter Tryz.func390, Tryz.ntmps390
 go_wp2_with fail
 refine C.out.mono ?_
 rintro e w1 ⟨rfl, hb⟩
 go_wp2
 go_ret
 exact ⟨rfl, hb⟩
theorem zpg (q : Nat) (d x : SlotD) (w : World) (h : RowAt w q 273 #[.string d.name, .int .i64 d.lo, .int .i64 d.hi]) :
  Calls Tryz.prog 393 #[.agg #[.string x.name, .int .i64 x.lo, .int .i64 x.hi], .pointer (some ⟨q, 0, none⟩)] w fun e w' => e = .returned (.bool (decide (x.name = d.name))) ∧ Below w.heap.size w w' := by
 obtain ⟨x1, x2, x3, x4, x5, x6⟩ := zaa h
 have hq : (x.name.toList == d.name.toList) = decide (x.name = d.name) := zec x.name d.name
 go_enter Tryz.func393, Tryz.ntmps393
 go_wp2
 go_ret
 exact ⟨zac (by first | exact hq | rfl | simp [hq]), bel⟩
theorem zq7 : ∀ args W, (callFunc 393 args).run Tryz.prog W = .ok (.enter 393 args) W := enters_of Tryz.func393 (by kernel_rfl) rfl
theorem zl3 (lb ib q k cap : Nat) (a : Option Addr) (l : List SlotD) (d : SlotD) (w : World) (hl : RowAt w lb 159 #[.slice a l.length cap]) (hi : RowAt w ib 3 #[.int .i64 k]) (h : RowAt w q 273 #[.string d.name, .int .i64 d.lo, .int .i64 d.hi]) (hv : ListAt 3 slotA w (.slice a l.length cap) l) (hk : k ≤ l.length) (hc : l.length ≤ cap) :
  Calls Tryz.prog 391 #[.pointer (some ⟨lb, 0, none⟩), .pointer (some ⟨ib, 0, none⟩), .pointer (some ⟨q, 0, none⟩)] w fun e w' => e = .returned (.bool ((l.take k).any fun x => decide (x.name = d.name))) ∧ Below w.heap.size w w' := by
 have hmf : ∀ (fn : Fn) (first cap : Array Value) (w : World), (Instr.makeFunc fn first cap).run Tryz.prog w = .ok (.func fn first cap) w := fun _ _ _ _ => rfl
 have hml := hv.few
 obtain ⟨x1, x2, x3, x4, x5, x6⟩ := zaa hl
 obtain ⟨y1, y2, y3, y4, y5, y6⟩ := zaa hi
 have x7 := x1 0
 have y7 := y1 0
 simp at x7 y7
 have hlen : (l.take k).length = k := by rw [List.length_take]; omega
 have C := zs5 393 #[.pointer (some ⟨q, 0, none⟩)] (fun x => decide (x.name = d.name)) (.slice a k cap) (l.take k) w (hv.take hk) zq7 (fun x hx W hb => zpg q d x W (h.run hb))
 have h1 : (0 : Int) ≤ (k : Int) := by omega
 have h2 : (k : Int) ≤ (cap : Int) := by omega
 have h3 : k ≤ cap := by omega
 have HC := hid C
 clear C x1 y1 hv
 go_enter Tryz.func391, Tryz.ntmps391
 go_wp2_with fail
 refine HC.out.mono ?_
 rintro e w1 ⟨rfl, hb⟩
 go_wp2
 go_ret
 exact ⟨rfl, hb⟩
theorem zn2 (q : Nat) (d : SlotD) (w : World) (h : RowAt w q 273 #[.string d.name, .int .i64 d.lo, .int .i64 d.hi]) :
   Calls Tryz.prog 394 #[.pointer (some ⟨q, 0, none⟩)] w fun e w' => e = .returned (.bool (wh3 d)) ∧ Below w.heap.size w w' := by
 obtain ⟨x1, x2, x3, x4, x5, x6⟩ := zaa h
 have C1 := fun W => zf4 d.lo W
 have C2 := fun W => zf4 d.hi W
 obtain ⟨r, hr⟩ : ∃ r, wh3 d = r := ⟨_, rfl⟩
 rw [hr]
 unfold wh3 at hr
 have HR := hid hr
 clear hr
 cases h1 : levB d.lo with
 | false =>
   rw [h1] at C1 HR
   have H1 := hid C1
   clear C1 C2 h1
   go_enter Tryz.func394, Tryz.ntmps394
   go_wp2_with fail
   refine (H1.out _).mono ?_
   rintro e w1 ⟨rfl, rfl⟩
   go_wp2
   go_ret
   exact ⟨zac (by rw [← HR.out]; rfl), bel⟩
 | true =>
   rw [h1] at C1 HR
   cases h2 : levB d.hi with
   | false =>
     rw [h2] at C2 HR
     have H1 := hid C1
     have H2 := hid C2
     clear C1 C2 h1 h2
     go_enter Tryz.func394, Tryz.ntmps394
     go_wp2_with fail
     refine (H1.out _).mono ?_
     rintro e w1 ⟨rfl, rfl⟩
     go_wp2_with fail
     refine (H2.out _).mono ?_
     rintro e w1 ⟨rfl, rfl⟩
     go_wp2
     go_ret
     exact ⟨zac (by rw [← HR.out]; rfl), bel⟩
   | true =>
     rw [h2] at C2 HR
     have H1 := hid C1
     have H2 := hid C2
     clear C1 C2 h1 h2
     go_enter Tryz.func394, Tryz.ntmps394
     go_wp2_with fail
     refine (H1.out _).mono ?_
     rintro e w1 ⟨rfl, rfl⟩
     go_wp2_with fail
     refine (H2.out _).mono ?_
     rintro e w1 ⟨rfl, rfl⟩
     go_wp2
     go_ret
     exact ⟨zac (by rw [← HR.out]; simp), bel⟩
theorem zxq (lb ib q k cap : Nat) (a : Option Addr) (l : List SlotD) (d : SlotD) (w : World) (hl : RowAt w lb 159 #[.slice a l.length cap]) (hi : RowAt w ib 3 #[.int .i64 k]) (h : RowAt w q 273 #[.string d.name, .int .i64 d.lo, .int .i64 d.hi]) (hv : ListAt 3 slotA w (.slice a l.length cap) l) (hk : k < l.length) :
   Calls Tryz.prog 395 #[.pointer (some ⟨ib, 0, none⟩), .pointer (some ⟨q, 0, none⟩), .pointer (some ⟨lb, 0, none⟩)] w fun e w' => e = .returned (.bool (wh4 (l.take k) d)) ∧ Below w.heap.size w w' := by
 have hml := hv.few
 obtain ⟨x1, x2, x3, x4, x5, x6⟩ := zaa hl
 obtain ⟨y1, y2, y3, y4, y5, y6⟩ := zaa hi
 obtain ⟨z1, z2, z3, z4, z5, z6⟩ := zaa h
 have y7 := y1 0
 have z7 := z1 1
 simp at y7 z7
 by_cases hkz : k = 0
 · have hp := hid (show wh4 (l.take k) d = false from by subst hkz; rfl)
   have hkz2 : ¬ (0 : Int) < (k : Int) := by omega
   have hkz3 : decide (0 < k) = false := by simp; omega
   have hkz4 : decide ((0 : Int) < (k : Int)) = false := by simp; omega
   have hkz5 : ¬ 0 < k := by omega
   clear hkz x1 y1 z1
   go_enter Tryz.func395, Tryz.ntmps395
   go_wp2
   go_quiet (fail)
   go_wp2
   go_ret
   exact ⟨zac (by rw [hp.out]), bel⟩
 obtain ⟨j, hj⟩ : ∃ j, k = j + 1 := ⟨k - 1, by omega⟩
 obtain ⟨s, hs⟩ : ∃ s, l[j]? = some s := ⟨_, List.getElem?_eq_getElem (by omega)⟩
 obtain ⟨g, off, cap', he, hg, hc⟩ := hv.at_ (by decide) hs
 cases he
 have x7 := x1 0
 simp at x7
 have f0 : w.cell? ⟨g, off + j * 3 + 2, none⟩ = some (.int .i64 s.hi) := hc w (Below.refl _ _) 2 (by decide)
 have hkz2 : (0 : Int) < (k : Int) := by omega
 have hkz5 : 0 < k := by omega
 have hk1 : (k : Int) - 1 = (j : Int) := by omega
 have hk2 : IntKind.i64.wrap ((k : Int) - 1) = (j : Int) := by rw [hk1]; exact IntWalk.i64_in _ (by omega)
 have hk3 : IntKind.i64.wrap (j : Int) = (j : Int) := IntWalk.i64_in _ (by omega)
 have hk5 : (0 : Int) ≤ (j : Int) := by omega
 have hk6 : (j : Int) < (l.length : Int) := by omega
 have hp := hid (show wh4 (l.take k) d = decide (d.lo ≤ s.hi) from by subst hj; rw [wh4, zbs hs])
 clear hj hs hc hv hkz x1 y1 z1
 go_enter Tryz.func395, Tryz.ntmps395
 go_wp2
 go_quiet (fail)
 go_wp2
 go_ret
 exact ⟨zac (by rw [hp.out]), bel⟩
theorem ze1 {w : World} {b T cap : Nat} {cs : Array Value} (l : List Rule) (h : RowAt w b T cs) (hl : cs.toList = genL ruleA l) (h0 : l.length ≠ 0) (h1 : l.length ≤ 100) : ListAt 2 ruleA w (.slice (some ⟨b, 0, none⟩) l.length cap) l := by
 refine .inr ⟨Nat.pos_of_ne_zero h0, by omega, b, 0, cap, rfl, lt_of_block h, fun j _ => ?_⟩
 rw [Nat.zero_add, (zaa h).1 j, ← Array.getElem?_toList, hl]
 exact zet (f := ruleA) (S := 2) (by decide) (fun _ => rfl) l j
def wheelR (bx ib q k : Nat) (l : List SlotD) (d : SlotD) : List Rule :=
 [⟨390, #[.pointer (some ⟨q, 0, none⟩)], 8, !nameB d.name⟩,
  ⟨391, #[.pointer (some ⟨bx, 0, none⟩), .pointer (some ⟨ib, 0, none⟩), .pointer (some ⟨q, 0, none⟩)], 7, (l.take k).any fun x => decide (x.name = d.name)⟩,
  ⟨394, #[.pointer (some ⟨q, 0, none⟩)], 2, wh3 d⟩,
  ⟨395, #[.pointer (some ⟨ib, 0, none⟩), .pointer (some ⟨q, 0, none⟩), .pointer (some ⟨bx, 0, none⟩)], 9, wh4 (l.take k) d⟩]
theorem zp4 (bx ib q k : Nat) (l : List SlotD) (d : SlotD) : ruleE (wheelR bx ib q k l d) = slotE (l.take k) d := by
 unfold ruleE wheelR slotE
 simp only [List.find?_cons, List.find?_nil]
 cases h1 : nameB d.name with
 | false => simp
 | true =>
   cases h2 : (l.take k).any fun x => decide (x.name = d.name) with
   | true => simp
   | false =>
     cases h3 : wh3 d with
     | true =>
       have h9 : levB d.lo = false ∨ levB d.hi = false ∨ d.hi < d.lo := by simpa [wh3] using h3
       simp [h9]
     | false =>
       have h9 : ¬ (levB d.lo = false ∨ levB d.hi = false ∨ d.hi < d.lo) := by
        intro hn
        have : wh3 d = true := by simpa [wh3] using hn
        rw [h3] at this
        cases this
       unfold wh4
       cases h4 : (l.take k).getLast? with
       | none => simp [h9]
       | some p => by_cases h5 : d.lo ≤ p.hi <;> simp [h9, h5]
theorem zm5 (bx ib q k : Nat) (l : List SlotD) (d : SlotD) : ∀ r ∈ wheelR bx ib q k l d, ∀ args W, (callFunc r.K args).run Tryz.prog W = .ok (.enter r.K args) W := by
 intro r hr
 simp only [wheelR, List.mem_cons, List.not_mem_nil, or_false] at hr
 rcases hr with rfl | rfl | rfl | rfl
 · exact enters_of Tryz.func390 (by kernel_rfl) rfl
 · exact enters_of Tryz.func391 (by kernel_rfl) rfl
 · exact enters_of Tryz.func394 (by kernel_rfl) rfl
 exact enters_of Tryz.func395 (by kernel_rfl) rfl
theorem ztc (bx ib q k cap : Nat) (a : Option Addr) (l : List SlotD) (d : SlotD) (w : World) (hl : RowAt w bx 159 #[.slice a l.length cap]) (hi : RowAt w ib 3 #[.int .i64 k]) (h : RowAt w q 273 #[.string d.name, .int .i64 d.lo, .int .i64 d.hi]) (hv : ListAt 3 slotA w (.slice a l.length cap) l) (hk : k < l.length) (hc : l.length ≤ cap) (hs : d.name.size ≤ 9223372036854775806) :
  ∀ j r, (wheelR bx ib q k l d)[j]? = some r → RulesOk (wheelR bx ib q k l d) j → ∀ W, Below w.heap.size w W → Calls Tryz.prog r.K r.caps W fun e w' => e = .returned (.bool r.bad) ∧ Below W.heap.size W w' := by
 intro j r hr _ W hb
 match j, hr with
 | 0, hr => cases hr; exact zol q d W (h.run hb) hs
 | 1, hr => cases hr; exact zl3 bx ib q k cap a l d W (hl.run hb) (hi.run hb) (h.run hb) (hv.run hb) (by omega) hc
 | 2, hr => cases hr; exact zn2 q d W (h.run hb)
 | 3, hr => cases hr; exact zxq bx ib q k cap a l d W (hl.run hb) (hi.run hb) (h.run hb) (hv.run hb) hk
 | j + 4, hr => simp [wheelR] at hr
theorem zpa (v : Value) (l : List SlotD) (w : World) (hv : ListAt 3 slotA w v l) (hc : CapOk v) (hs : ∀ s ∈ l, s.name.size ≤ 9223372036854775806) :
   Calls Tryz.prog 383 #[v] w fun e w' => e = .returned (.int .i64 (wheelE l)) ∧ Below w.heap.size w w' := by
 have hmf : ∀ (fn : Fn) (first cap : Array Value) (w : World), (Instr.makeFunc fn first cap).run Tryz.prog w = .ok (.func fn first cap) w := fun _ _ _ _ => rfl
 obtain ⟨a, cap, rfl⟩ := hv.shape
 have hml := hv.few
 have hcap := hc _ _ _ rfl
 by_cases h4 : 16 < l.length
 · have h5 : (16 : Int) < (l.length : Int) := by omega
   rw [wheelE, if_pos h4]
   clear h4 hv hs hc
   go_enter Tryz.func383, Tryz.ntmps383
   go_wp2
   go_ret
   exact ⟨rfl, bel⟩
 have h5 : ¬ (16 : Int) < (l.length : Int) := by omega
 rw [wheelE, if_neg h4]
 have hml4 : l.length ≤ 16 := by omega
 have b0 : Below w.heap.size w (w.alloc (.cells #[.slice a l.length cap] 159)) := bel
 have s0 := RowAt.new w 159 #[.slice a l.length cap]
 have H0 := hid (And.intro s0 b0)
 have HV := hid hv
 have HS := hid hs
 clear hv hs hc h4 s0 b0
 go_enter Tryz.func383, Tryz.ntmps383
 go_wp2
 go_loopw [11] (fun i wr => ∃ k : Nat, i = .int .i64 k ∧ Hid (LoopB slotE l k ∧ RowAt wr w.heap.size 159 #[.slice a l.length cap] ∧ Below w.heap.size w wr)) (fun i _ => l.length - (intOf i).toNat)
 case atStart => exact ⟨0, rfl, hid ⟨zam _ _, H0.out⟩⟩
 case round =>
   obtain ⟨k, rfl, hh⟩ := hrel
   have hk := hh.out.1.2.1
   have hbs := hh.out.2.2.size
   by_cases hlt : k < l.length
   · have hlt3 : (k : Int) < (l.length : Int) := by omega
     obtain ⟨d, hd⟩ : ∃ d, l[k]? = some d := ⟨_, List.getElem?_eq_getElem hlt⟩
     obtain ⟨g, off, cap', he, hg, hcc⟩ := HV.out.at_ (by decide) hd
     cases he
     have e0 : wr.cell? ⟨g, off + k * 3, none⟩ = some (.string d.name) := hcc wr hh.out.2.2 0 (by decide)
     have e1 : wr.cell? ⟨g, off + k * 3 + 1, none⟩ = some (.int .i64 d.lo) := hcc wr hh.out.2.2 1 (by decide)
     have e2 : wr.cell? ⟨g, off + k * 3 + 2, none⟩ = some (.int .i64 d.hi) := hcc wr hh.out.2.2 2 (by decide)
     have hgr : g < wr.heap.size := by omega
     have hgn : ¬ g = wr.heap.size := by omega
     have HD := hid hd
     have hrr := hh.out.2.1
     obtain ⟨x1, x2, x3, x4, x5, x6⟩ := zaa hrr
     clear hd hcc
     go_wp2_with fail
     have hb3 : Below wr.heap.size wr (((wr.alloc (.cells #[.int .i64 k] 3)).alloc (.cells #[.string d.name, .int .i64 d.lo, .int .i64 d.hi] 273)).alloc (.cells (genL ruleA (wheelR w.heap.size wr.heap.size (wr.heap.size + 1) k l d)).toArray 378)) := bel
     have r3 : RowAt (((wr.alloc (.cells #[.int .i64 k] 3)).alloc (.cells #[.string d.name, .int .i64 d.lo, .int .i64 d.hi] 273)).alloc (.cells (genL ruleA (wheelR w.heap.size wr.heap.size (wr.heap.size + 1) k l d)).toArray 378)) (wr.heap.size + 1 + 1) 378 (genL ruleA (wheelR w.heap.size wr.heap.size (wr.heap.size + 1) k l d)).toArray := RowAt.mk (by simp) rfl
     have r2 : RowAt (((wr.alloc (.cells #[.int .i64 k] 3)).alloc (.cells #[.string d.name, .int .i64 d.lo, .int .i64 d.hi] 273)).alloc (.cells (genL ruleA (wheelR w.heap.size wr.heap.size (wr.heap.size + 1) k l d)).toArray 378)) (wr.heap.size + 1) 273 #[.string d.name, .int .i64 d.lo, .int .i64 d.hi] := RowAt.alloc (RowAt.mk (by simp) rfl) _
     have r1 : RowAt (((wr.alloc (.cells #[.int .i64 k] 3)).alloc (.cells #[.string d.name, .int .i64 d.lo, .int .i64 d.hi] 273)).alloc (.cells (genL ruleA (wheelR w.heap.size wr.heap.size (wr.heap.size + 1) k l d)).toArray 378)) wr.heap.size 3 #[.int .i64 k] := RowAt.alloc (RowAt.alloc (RowAt.mk rfl rfl) _) _
     have C := hid (zd6 _ (wheelR w.heap.size wr.heap.size (wr.heap.size + 1) k l d) _ (ze1 (cap := 4) _ r3 rfl (by simp [wheelR]) (by simp [wheelR])) (zm5 _ _ _ _ _ _) (ztc _ _ _ _ cap _ l d _ (hrr.run hb3) r1 r2 ((HV.out.run hh.out.2.2).run hb3) hlt hcap (HS.out d (List.mem_of_getElem? HD.out))))
     rw [zp4] at C
     have HB3 := hid hb3
     obtain ⟨x, hx⟩ : ∃ x, slotE (l.take k) d = x := ⟨_, rfl⟩
     rw [hx] at C
     have HX := hid hx
     clear hx r1 r2 r3 hb3
     refine C.out.mono ?_
     rintro e w1 ⟨rfl, hb1⟩
     have hb4 := HB3.out.trans (hb1.mono HB3.out.size)
     have hbw := hid (hh.out.2.2.trans (hb4.mono hbs))
     have hr4 := hid (hrr.run hb4)
     clear hb1 hb4 C HB3
     by_cases hx0 : x = 0
     · subst hx0
       have hgo := hid (zah hh.out.1 HD.out HX.out)
       go_wp2
       go_roundw
       case rel => exact ⟨k + 1, by go_num, hid ⟨hgo.out, hr4.out, hbw.out⟩⟩
       case measure => simp [intOf]; omega
     have hx1 : (x == 0) = false := by simpa using hx0
     have hst := hid (zad hh.out.1 HD.out HX.out hx0)
     go_wp2
     go_ret
     exact ⟨zab hst.out.symm, hbw.out⟩
   obtain rfl : k = l.length := by omega
   have hen := hid (zan hh.out.1)
   go_wp2
   go_ret
   exact ⟨zab hen.out.symm, hh.out.2.2⟩
section
variable {γ : Type} [DecidableEq γ]
def entG (κ : γ → Value) : List (γ × Value) → Nat → List MapEntry
 | [], _ => []
 | a :: l, n => { key := κ a.1, val := a.2, born := n } :: entG κ l (n + 1)
omit [DecidableEq γ] in
theorem zv6 (κ : γ → Value) (l : List (γ × Value)) (a : γ × Value) (n : Nat) : entG κ (l ++ [a]) n = entG κ l n ++ [{ key := κ a.1, val := a.2, born := n + l.length }] := by
 induction l generalizing n with
 | nil => rfl
 | cons b l ih =>
   rw [List.cons_append, entG, entG, ih, List.cons_append, List.length_cons]
   congr 4
   omega
def findG (l : List (γ × Value)) (x : γ) : Option Value := (l.find? fun e => decide (x = e.1)).map (·.2)
theorem zgj {κ : γ → Value} {kind : TypeDesc} (hs : ∀ a b, Instr.sameNow kind (κ a) (κ b) = some (decide (a = b))) (l : List (γ × Value)) (x : γ) (n i : Nat) :
   ∃ r, Instr.findNow kind (κ x) (entG κ l n) i = some r ∧ r.map (·.2) = findG l x := by
 induction l generalizing n i with
 | nil => exact ⟨none, rfl, rfl⟩
 | cons b l ih =>
   by_cases h : x = b.1
   · refine ⟨some (i, b.2), ?_, ?_⟩
     · rw [entG, Instr.findNow, hs]
       simp [h]
     simp [findG, h]
   obtain ⟨r, h1, h2⟩ := ih (n + 1) (i + 1)
   refine ⟨r, ?_, ?_⟩
   · rw [entG, Instr.findNow, hs]
     simp [h, h1]
   rw [h2]
   simp [findG, h]
def onB {γ : Type} (l : List γ) : List (γ × Value) := l.map fun x => (x, .bool true)
def MapAt (κ : γ → Value) (w : World) (b : Nat) (l : List (γ × Value)) : Prop := w.heap[b]? = some (.map (entG κ l 0).toArray l.length)
omit [DecidableEq γ] in
theorem MapAt.run {κ : γ → Value} {w W : World} {b : Nat} {l : List (γ × Value)} (h : MapAt κ w b l) (hb : Below w.heap.size w W) : MapAt κ W b l := (hb.block b (lt_of_block h)).trans h
omit [DecidableEq γ] in
theorem MapAt.upd {κ : γ → Value} {w W : World} {b k : Nat} {l : List (γ × Value)} (h : MapAt κ w b l) (hu : Upd k w W) (hne : b ≠ k) : MapAt κ W b l := (hu.block b (lt_of_block h) (by simp; omega)).trans h
omit [DecidableEq γ] in
theorem mapNew {κ : γ → Value} {w W : World} {b : Nat} (hb : Below (w.alloc (.map #[] 0)).heap.size (w.alloc (.map #[] 0)) W) (h : b = w.heap.size) : MapAt κ W b (onB []) := by
 subst h
 exact MapAt.run (l := []) (heap_alloc_new w _) hb
variable {P : Program} {t kt et : TypeId} {kind : TypeDesc} {κ : γ → Value}
theorem zdn {w : World} {b : Nat} {l : List (γ × Value)} (hs : ∀ a b, Instr.sameNow kind (κ a) (κ b) = some (decide (a = b))) (hc : ∀ b n a w, (Instr.checkKey b (n + 1) kt (κ a)).run P w = .ok () w)
   (ht : P.underlying t = some (.map kt et)) (hk : P.underlying kt = some kind) {z : Value} (hz : (zeroValue et).run P w = .ok z w) (h : MapAt κ w b l) (x : γ) :
   (Instr.lookup t (.map (some b)) (κ x) false).run P w = .ok ((findG l x).getD z) w := by
 have hg : (getObj b).run P w = .ok (.map (entG κ l 0).toArray l.length) w := by
   unfold MapAt at h
   simp only [getObj, Sem.run, h]
 obtain ⟨r, h1, h2⟩ := zgj hs l x 0 0
 have hf : (Instr.findKey kt (κ x) (entG κ l 0).toArray.toList).run P w = .ok r w := by
   simp [Instr.findKey, run_underlying hk, h1]
 have hck := fun e => hc e 9999 x w
 unfold Instr.lookup
 cases r with
 | none =>
   have h3 : findG l x = none := by rw [← h2]; rfl
   simp [run_underlying ht, hg, hck, hf, hz, h3]
 | some p =>
   have h3 : findG l x = some p.2 := by rw [← h2]; rfl
   simp [run_underlying ht, hg, hck, hf, h3]
theorem zfg {w : World} {b : Nat} {l : List (γ × Value)} (hs : ∀ a b, Instr.sameNow kind (κ a) (κ b) = some (decide (a = b))) (hc : ∀ b n a w, (Instr.checkKey b (n + 1) kt (κ a)).run P w = .ok () w)
   (ht : P.underlying t = some (.map kt et)) (hk : P.underlying kt = some kind) (h : MapAt κ w b l) (x : γ) (hx : findG l x = none) (v : Value) :
   ∃ w2, (Instr.mapUpdate t (.map (some b)) (κ x) v).run P w = .ok () w2 ∧ MapAt κ w2 b (l ++ [(x, v)]) ∧ Upd b w w2 := by
 have hlt : b < w.heap.size := lt_of_block h
 refine ⟨{ w with heap := w.heap.setIfInBounds b (.map (entG κ (l ++ [(x, v)]) 0).toArray (l ++ [(x, v)]).length) }, ?_, ?_, ?_⟩
 · have hg : (getObj b).run P w = .ok (.map (entG κ l 0).toArray l.length) w := by
    unfold MapAt at h
    simp only [getObj, Sem.run, h]
   have hst : ∀ o, (setObj b o).run P w = .ok () { w with heap := w.heap.setIfInBounds b o } := by
    intro o
    unfold MapAt at h
    simp only [setObj, Sem.run, h]
   obtain ⟨r, h1, h2⟩ := zgj hs l x 0 0
   rw [hx] at h2
   have h3 : r = none := by
    cases r with
    | none => rfl
    | some p => cases h2
   subst h3
   have hf : (Instr.findKey kt (κ x) (entG κ l 0).toArray.toList).run P w = .ok none w := by
    simp [Instr.findKey, run_underlying hk, h1]
   have hck := hc false 9999 x w
   unfold Instr.mapUpdate
   simp [run_underlying ht, hg, hck, hf, hst, zv6]
 · show (w.heap.setIfInBounds b _)[b]? = _
   rw [Array.getElem?_setIfInBounds]
   simp [hlt]
 refine ⟨rfl, rfl, rfl, by simp, fun k _ hne => ?_⟩
 show (w.heap.setIfInBounds b _)[k]? = _
 rw [Array.getElem?_setIfInBounds, if_neg (by intro e; exact hne (by rw [e]))]
end
theorem zwm (a b : ByteArray) : (a == b) = decide (a = b) := by
 have h : (a == b) = (a.data == b.data) := rfl
 rw [h, Bool.eq_iff_iff, beq_iff_eq, decide_eq_true_eq]
 exact ⟨fun h => ByteArray.ext h, fun h => by rw [h]⟩
def kI (n : Int) : Value := .int .i64 n
def kS (s : ByteArray) : Value := .string s
theorem sameI (a b : Int) : Instr.sameNow (.int .i64) (kI a) (kI b) = some (decide (a = b)) := by
 simp only [kI, Instr.sameNow, if_true]
 by_cases h : a = b <;> simp [h]
theorem sameS (a b : ByteArray) : Instr.sameNow .string (kS a) (kS b) = some (decide (a = b)) := by
 simp only [kS, Instr.sameNow]
 rw [zwm]
theorem checkI (b : Bool) (n : Nat) (a : Int) (w : World) : (Instr.checkKey b (n + 1) 3 (kI a)).run Tryz.prog w = .ok () w := by
 unfold Instr.checkKey
 simp [run_underlying Tryz.underlying3, kI]
theorem checkS (b : Bool) (n : Nat) (a : ByteArray) (w : World) : (Instr.checkKey b (n + 1) 9 (kS a)).run Tryz.prog w = .ok () w := by
 unfold Instr.checkKey
 simp [run_underlying Tryz.underlying9, kS]
theorem zj5 {γ : Type} (l : List γ) (x : γ) : onB (l ++ [x]) = onB l ++ [(x, .bool true)] := by simp [onB]
theorem zdw {γ : Type} [DecidableEq γ] (l : List γ) (x : γ) : findG (onB l) x = if (l.any fun y => decide (x = y)) = true then some (.bool true) else none := by
 induction l with
 | nil => rfl
 | cons b l ih =>
   by_cases h : x = b
   · simp [onB, findG, h]
   have : findG (onB (b :: l)) x = findG (onB l) x := by simp [onB, findG, h]
   rw [this, ih]
   simp [h]
theorem bool0 (w : World) : (zeroValue 4).run Tryz.prog w = .ok (.bool false) w := by kernel_rfl
theorem zhf {w : World} {b : Nat} {l : List Int} (h : MapAt kI w b (onB l)) (x : Int) : (Instr.lookup 399 (.map (some b)) (.int .i64 x) false).run Tryz.prog w = .ok (.bool (l.any fun y => decide (x = y))) w := by
 have := zdn sameI checkI Tryz.underlying399 Tryz.underlying3 (bool0 w) h x
 rw [zdw] at this
 rw [show (Value.int .i64 x) = kI x from rfl, this]
 cases hx : l.any fun y => decide (x = y) <;> simp
theorem zlf {w : World} {b : Nat} {l : List Int} (h : MapAt kI w b (onB l)) (x : Int) (hx : (l.any fun y => decide (x = y)) = false) :
  ∃ w2, (Instr.mapUpdate 399 (.map (some b)) (.int .i64 x) (.bool true)).run Tryz.prog w = .ok () w2 ∧ MapAt kI w2 b (onB (l ++ [x])) ∧ Upd b w w2 := by
 rw [zj5]
 exact zfg sameI checkI Tryz.underlying399 Tryz.underlying3 h x (by rw [zdw, if_neg (by simp [hx])]) _
theorem zla {w : World} {b : Nat} {l : List ByteArray} (h : MapAt kS w b (onB l)) (x : ByteArray) : (Instr.lookup 345 (.map (some b)) (.string x) false).run Tryz.prog w = .ok (.bool (l.any fun y => decide (x = y))) w := by
 have := zdn sameS checkS Tryz.underlying345 Tryz.underlying9 (bool0 w) h x
 rw [zdw] at this
 rw [show (Value.string x) = kS x from rfl, this]
 cases hx : l.any fun y => decide (x = y) <;> simp
theorem zl7 {w : World} {b : Nat} {l : List ByteArray} (h : MapAt kS w b (onB l)) (x : ByteArray) (hx : (l.any fun y => decide (x = y)) = false) :
  ∃ w2, (Instr.mapUpdate 345 (.map (some b)) (.string x) (.bool true)).run Tryz.prog w = .ok () w2 ∧ MapAt kS w2 b (onB (l ++ [x])) ∧ Upd b w w2 := by
 rw [zj5]
 exact zfg sameS checkS Tryz.underlying345 Tryz.underlying9 h x (by rw [zdw, if_neg (by simp [hx])]) _
end Go.Proofs.YtjeigphhepngmaaGreatDoor
