/-
  Digits of texts, and the cut at the point: what both sides say.
  The two checks of numbers: what both sides say.
-/
import Derived.Test.YtjeigphhepngmaaGreatDoorProg
import Derived.Test.YtjeigphhepngmaaGreatDoorBas
import Derived.Test.YtjeigphhepngmaaGreatDoorYb
import Derived.Test.YtjeigphhepngmaaGreatDoorShf
import Derived.Deep.RegionHeld
namespace Go.Proofs.YtjeigphhepngmaaGreatDoor
open Go.RowKit

/-- A rune that is no digit. -/
def badR (r : Int) : Bool := decide (r < 48 ∨ 57 < r)

set_option maxHeartbeats 400000 in
theorem badR_any (r : Int) (w : World) :
    Calls Tryz.prog 289 #[.int .i32 r] w fun e w' => e = .returned (.bool (badR r)) ∧ w = w' := by
  go_enter Tryz.func289, Tryz.ntmps289
  go_wp2
  all_goals go_ret
  all_goals exact ⟨ret_bool (by grind [badR]), rfl⟩

/-- The first `k` bytes are digits. -/
def digTo (s : ByteArray) (k : Nat) : Bool := (s.data.toList.take k).all isDig

theorem digTo_succ (s : ByteArray) (k : Nat) (h : k < s.size) (hf : digTo s k = true) (hb : isDig s[k] = true) : digTo s (k + 1) = true := by
  unfold digTo at *
  rw [take_snoc s k h, List.all_append, hf]
  simpa using hb
theorem digTo_bad (s : ByteArray) (k : Nat) (h : k < s.size) (hb : isDig s[k] = false) : s.data.toList.all isDig = false := by
  rw [List.all_eq_false]
  exact ⟨s[k], List.getElem_mem (l := s.data.toList) (by simpa using h), by simp [hb]⟩
theorem digTo_all (s : ByteArray) (k : Nat) (h : s.size ≤ k) (hf : digTo s k = true) : s.data.toList.all isDig = true := by
  unfold digTo at hf
  rwa [List.take_of_length_le (by simpa using h)] at hf

set_option maxHeartbeats 1000000 in
set_option maxRecDepth 100000 in
theorem idxDig_any (s : ByteArray) (w : World) :
    Calls Tryz.prog 359 #[.string s, .func (.func 289) #[] #[], .bool true] w
      fun e w' => (∃ n : Int, e = .returned (.int .i64 n) ∧ (decide (0 ≤ n) = !(s.data.toList.all isDig))) ∧ Below w.heap.size w w' := by
  go_enter Tryz.func359, Tryz.ntmps359
  go_wp2_with fail
  go_loopw [] (fun wr => ∃ k : Nat, k ≤ s.size ∧ wr = w.iter s k ∧ digTo s k = true) (fun wr => s.size - wr.iterPos w.heap.size)
  case atStart => exact ⟨0, Nat.zero_le _, rfl, rfl⟩
  case round =>
    obtain ⟨k, hk, rfl, hf⟩ := hrel
    by_cases hlt : k < s.size
    · by_cases ha : (s[k]).toNat < 128
      · have hn := fun ty => run_next_ascii (P := Tryz.prog) w s k ty hlt ha
        go_wp2_with (go_at_call 289; refine (badR_any _ _).mono ?_; rintro e w' ⟨rfl, rfl⟩)
        · go_ret
          refine ⟨⟨k, rfl, ?_⟩, (Below.refl _ _).alloc (Nat.le_refl _) _⟩
          rw [digTo_bad s k hlt (by grind [isDig, badR])]
          simp
        · go_roundw
          case rel => exact ⟨k + 1, hlt, rfl, digTo_succ s k hlt hf (by grind [isDig, badR])⟩
          case measure => simp; omega
      · have hn := fun ty => run_next_any (P := Tryz.prog) w s k ty hlt
        have hd := (decode_high s k hlt (by omega)).1
        have hbr : badR ((Utf8.decode s k).1 : Int) = true := by grind [badR]
        go_wp2_with (go_at_call 289; refine (badR_any _ _).mono ?_; rintro e w' ⟨rfl, rfl⟩)
        go_ret
        refine ⟨⟨k, rfl, ?_⟩, (Below.refl _ _).alloc (Nat.le_refl _) _⟩
        rw [digTo_bad s k hlt (by grind [isDig])]
        simp
    · have hn := fun ty => run_next_end (P := Tryz.prog) w s k ty hlt
      go_wp2_with fail
      go_ret
      refine ⟨⟨-1, rfl, ?_⟩, (Below.refl _ _).alloc (Nat.le_refl _) _⟩
      rw [digTo_all s k (by omega) hf]
      rfl

theorem digs_nil {l : List UInt8} (h : l.isEmpty = true) : digs l = false := by simp [digs, h]
theorem digs_is {l : List UInt8} (h : l.isEmpty = false) : digs l = l.all isDig := by simp [digs, h]

set_option maxHeartbeats 400000 in
theorem digits_any (s : ByteArray) (w : World) :
    Calls Tryz.prog 248 #[.string s] w fun e w' => e = .returned (.bool (digs s.data.toList)) ∧ Below w.heap.size w w' := by
  have hD : s.toList = s.data.toList := Lib.toList_data s
  obtain ⟨q, hq⟩ : ∃ q, s.toList.isEmpty = q := ⟨_, rfl⟩
  have hq2 : s.data.toList.isEmpty = q := by rw [← hD]; exact hq
  cases q with
  | true =>
    rw [digs_nil hq2]
    clear hq2 hD
    go_enter Tryz.func248, Tryz.ntmps248
    go_wp2
    go_ret
    exact ⟨rfl, Below.refl _ _⟩
  | false =>
    rw [digs_is hq2]
    clear hq2 hD
    obtain ⟨a, ha⟩ : ∃ a, s.data.toList.all isDig = a := ⟨_, rfl⟩
    have C := idxDig_any s
    rw [ha] at C ⊢
    clear ha
    go_enter Tryz.func248, Tryz.ntmps248
    go_wp2_with (first | (go_at_call 288; go_in) | (go_at_call 329; go_in) | (go_at_call 359; refine (C _).mono ?_; rintro e w' ⟨⟨n, rfl, hn⟩, hb⟩))
    all_goals go_ret
    all_goals exact ⟨ret_bool (by cases a <;> simp_all <;> omega), hb⟩

set_option maxHeartbeats 1000000 in
theorem rdigits_any (s : ByteArray) (w : World) (hs : s.size ≤ 9223372036854775807) :
    Calls Tryz.prog 256 #[.string s] w fun e w' => e = .returned (.bool (digs s.data.toList)) ∧ w = w' := by
  go_enter Tryz.func256, Tryz.ntmps256
  go_wp2
  go_loop [3] (fun i => ∃ k : Nat, k ≤ s.size ∧ i = .int .i64 k ∧ digTo s k = true) (fun i => s.size - (intOf i).toNat)
  case atStart => exact ⟨0, Nat.zero_le _, rfl, rfl⟩
  case round =>
    obtain ⟨k, hk, rfl, hf⟩ := hrel
    by_cases hlt : k < s.size
    · go_wp2
      all_goals first
        | (go_ret
           have hbad := digTo_bad s k hlt (by grind [isDig])
           exact ⟨ret_bool (by simp [digs, hbad]), rfl⟩)
        | (go_round
           case rel => exact ⟨k + 1, by omega, by go_num, digTo_succ s k hlt hf (by grind [isDig])⟩
           case measure => simp [intOf]; omega)
    · have hall := digTo_all s k (by omega) hf
      have he : s.data.toList.isEmpty = !decide (0 < s.size) := by
        have : s.data.toList.length = s.size := by simp
        cases h : s.data.toList with
        | nil => rw [h] at this; simp at this; simp [← this]
        | cons b l => rw [h] at this; simp at this; simp; omega
      go_wp2
      go_ret
      exact ⟨ret_bool (by simp [digs, hall, he]), rfl⟩

/-! ### The reference's cut -/
theorem with_pt2 : ∀ (l r : List UInt8), hasPt l = false → wholeOf (l ++ 46 :: r) = l ∧ restOf (l ++ 46 :: r) = r ∧ hasPt (l ++ 46 :: r) = true
  | [], _, _ => ⟨rfl, rfl, rfl⟩
  | b :: l, r, h => by
    have hb : b ≠ 46 := by
      rintro rfl
      simp [hasPt] at h
    simp only [hasPt, hb, if_false] at h
    obtain ⟨h1, h2, h3⟩ := with_pt2 l r h
    simp [wholeOf, restOf, hasPt, hb, h1, h2, h3]
theorem no_pt2 : ∀ (l : List UInt8), hasPt l = false → wholeOf l = l ∧ restOf l = []
  | [], _ => ⟨rfl, rfl⟩
  | b :: l, h => by
    have hb : b ≠ 46 := by
      rintro rfl
      simp [hasPt] at h
    simp only [hasPt, hb, if_false] at h
    obtain ⟨h1, h2⟩ := no_pt2 l h
    simp [wholeOf, restOf, hb, h1, h2]
theorem hasPt_snoc : ∀ (l : List UInt8) (b : UInt8), hasPt l = false → b ≠ 46 → hasPt (l ++ [b]) = false
  | [], b, _, h => by simp [hasPt, h]
  | a :: l, b, h, hb => by
    have ha : a ≠ 46 := by
      rintro rfl
      simp [hasPt] at h
    simp only [hasPt, ha, if_false] at h
    simp [hasPt, ha, hasPt_snoc l b h hb]
theorem split_at (s : ByteArray) (k : Nat) (h : k < s.size) : s.data.toList = s.data.toList.take k ++ s[k] :: s.data.toList.drop (k + 1) := by
  have hl : k < s.data.toList.length := by simpa using h
  have := List.drop_eq_getElem_cons hl
  conv => lhs; rw [← List.take_append_drop k s.data.toList, this]
  rfl
theorem str_of_list {x : ByteArray} {l : List UInt8} (h : x.data.toList = l) : x = str l := by
  obtain ⟨⟨d⟩⟩ := x
  simp at h
  subst h
  rfl

set_option maxHeartbeats 1000000 in
theorem split_any (s : ByteArray) (w : World) (hsz : s.size ≤ 9223372036854775807) :
    Calls Tryz.prog 255 #[.string s] w fun e w' => e = .returned (.tuple #[.string (str (wholeOf s.data.toList)), .string (str (restOf s.data.toList)), .bool (hasPt s.data.toList)]) ∧ Below w.heap.size w w' := by
  go_enter Tryz.func255, Tryz.ntmps255
  go_wp2
  go_loop [5] (fun i => ∃ k : Nat, k ≤ s.size ∧ i = .int .i64 k ∧ hasPt (s.data.toList.take k) = false) (fun i => s.size - (intOf i).toNat)
  case atStart => exact ⟨0, Nat.zero_le _, rfl, rfl⟩
  case round =>
    obtain ⟨k, hk, rfl, hf⟩ := hrel
    by_cases hlt : k < s.size
    · by_cases hp : s[k] = 46
      · have hs := split_at s k hlt
        rw [hp] at hs
        obtain ⟨h1, h2, h3⟩ := with_pt2 _ (s.data.toList.drop (k + 1)) hf
        rw [← hs] at h1 h2 h3
        have hx1 : str (wholeOf s.data.toList) = s.extract 0 k := (str_of_list (by rw [take_extract, h1])).symm
        have hx2 : str (restOf s.data.toList) = s.extract (k + 1) s.size := (str_of_list (by rw [drop_extract, h2])).symm
        have HX := Lib.hid (And.intro hx1 (And.intro hx2 h3))
        have hpn : (s[k].toNat : Int) = 46 := by rw [hp]; rfl
        clear hs h1 h2 h3 hx1 hx2 hp hf
        have hk1 : (k : Int) + 1 ≤ (s.size : Int) := by omega
        go_wp2
        go_region
        go_wp2
        go_ret3
        exact ⟨by rw [HX.out.1, HX.out.2.1, HX.out.2.2]; rfl, by (repeat' (first | (with_reducible exact Below.refl _ _) | (with_reducible assumption) | (with_reducible refine below_drewN ?_ _) | (with_reducible refine Below.drew ?_) | (with_reducible refine Below.setCell ?_ ?_ _) | (with_reducible refine Below.alloc ?_ ?_ _) | (with_reducible refine below_after ?_ ?_ (by assumption)) | (show _ ≤ _; first | omega | (simp; done) | (simp; omega))))⟩
      · have hpn : ¬ (s[k].toNat : Int) = 46 := fun h => hp (UInt8.toNat_inj.1 (by simpa using Int.ofNat.inj h))
        have hn : hasPt (s.data.toList.take (k + 1)) = false := by rw [take_snoc s k hlt]; exact hasPt_snoc _ _ hf hp
        go_wp2
        go_round
        case rel => exact ⟨k + 1, by omega, by go_num, hn⟩
        case measure => simp [intOf]; omega
    · rw [List.take_of_length_le (by simp; omega)] at hf
      obtain ⟨h1, h2⟩ := no_pt2 _ hf
      have hx : str (wholeOf s.data.toList) = s := (str_of_list h1.symm).symm
      have HX := Lib.hid (And.intro hx (And.intro h2 hf))
      clear hx h1 h2 hf
      go_wp2
      go_ret3
      exact ⟨by rw [HX.out.1, HX.out.2.1, HX.out.2.2]; rfl, by (repeat' (first | (with_reducible exact Below.refl _ _) | (with_reducible assumption) | (with_reducible refine below_drewN ?_ _) | (with_reducible refine Below.drew ?_) | (with_reducible refine Below.setCell ?_ ?_ _) | (with_reducible refine Below.alloc ?_ ?_ _) | (with_reducible refine below_after ?_ ?_ (by assumption)) | (show _ ≤ _; first | omega | (simp; done) | (simp; omega))))⟩
end Go.Proofs.YtjeigphhepngmaaGreatDoor

namespace Go.Proofs.YtjeigphhepngmaaGreatDoor
open Go.RowKit

/-- Three cells, stored one by one. -/
theorem RowAt.three {w : World} {k T : Nat} {a b c v0 v1 v2 : Value} (h : RowAt w k T #[a, b, c]) :
    RowAt (((w.setCell ⟨k, 0, none⟩ v0).setCell ⟨k, 1, none⟩ v1).setCell ⟨k, 2, none⟩ v2) k T #[v0, v1, v2] := by
  have h0 : RowAt _ k T #[v0, b, c] := RowAt.set (i := 0) (u := v0) h rfl
  have h1 : RowAt _ k T #[v0, v1, c] := RowAt.set (i := 1) (u := v1) h0 rfl
  exact RowAt.set h1 rfl

theorem idxByte_pt : ∀ l : List UInt8, Lib.indexByte l 46 = if hasPt l then ((wholeOf l).length : Int) else -1
  | [] => rfl
  | b :: l => by
    by_cases hb : b = 46
    · subst hb
      rfl
    · have hb2 : (b == 46) = false := beq_eq_false_iff_ne.2 hb
      have ih := idxByte_pt l
      unfold Lib.indexByte
      simp only [hasPt, wholeOf, hb, if_false]
      rw [ih]
      cases h : hasPt l with
      | false => simp [hb2]
      | true =>
        have h9 : (((wholeOf l).length : Int) == -1) = false := by rw [beq_eq_false_iff_ne]; omega
        simp [hb2, h9]

theorem wr_take {l a b : List UInt8} (h : l = a ++ 46 :: b) : l.take a.length = a := by
  subst h
  simp
theorem wr_drop {l a b : List UInt8} (h : l = a ++ 46 :: b) : l.drop (a.length + 1) = b := by
  subst h
  simp

set_option maxHeartbeats 1000000 in
set_option maxRecDepth 100000 in
theorem scut5_any (s : ByteArray) (w : World) (hs : s.size ≤ 9223372036854775806) :
    Calls Tryz.prog 287 #[.string s, .string ⟨#[46]⟩] w fun e w' => e = .returned (.tuple #[.string (str (wholeOf s.data.toList)), .string (str (restOf s.data.toList)), .bool (hasPt s.data.toList)]) ∧ Below w.heap.size w w' := by
  have hI := idxByte_pt s.data.toList
  have C := Tryz.stringslite_Index_one s 46
  rcases cut_pt_idx s.data.toList with ⟨h1, -, h3⟩ | ⟨h1, -, h3, h4⟩
  · rw [h1, if_pos rfl] at hI
    rw [hI] at C
    have hlen : s.size = (wholeOf s.data.toList).length + (1 + (restOf s.data.toList).length) := by
      have := congrArg List.length h3
      simp at this
      omega
    obtain ⟨k, hk⟩ : ∃ k, (wholeOf s.data.toList).length = k := ⟨_, rfl⟩
    rw [hk] at C hlen
    have hx1 : str (wholeOf s.data.toList) = s.extract 0 k := (str_of_list (by rw [take_extract, ← hk]; exact wr_take h3)).symm
    have hx2 : str (restOf s.data.toList) = s.extract (k + 1) s.size := (str_of_list (by rw [drop_extract, ← hk]; exact wr_drop h3)).symm
    have HX := Lib.hid (And.intro hx1 (And.intro hx2 h1))
    have hk1 : (k : Int) + 1 ≤ (s.size : Int) := by omega
    have hk2 : (k : Int) ≤ (s.size : Int) := by omega
    have hk3 : (k : Int) + 1 ≤ 9223372036854775807 := by omega
    clear hI h1 h3 hlen hk hx1 hx2
    go_enter Tryz.func287, Tryz.ntmps287
    go_wp2_with (go_at_call 328; refine (C _).mono ?_; rintro e w' ⟨rfl, rfl⟩)
    go_region
    go_wp2
    go_ret3
    exact ⟨by rw [HX.out.1, HX.out.2.1, HX.out.2.2]; rfl, by (repeat' (first | (with_reducible exact Below.refl _ _) | (with_reducible assumption) | (with_reducible refine below_drewN ?_ _) | (with_reducible refine Below.drew ?_) | (with_reducible refine Below.setCell ?_ ?_ _) | (with_reducible refine Below.alloc ?_ ?_ _) | (with_reducible refine below_after ?_ ?_ (by assumption)) | (show _ ≤ _; first | omega | (simp; done) | (simp; omega))))⟩
  · rw [h1, if_neg (by simp)] at hI
    rw [hI] at C
    have hx : str (wholeOf s.data.toList) = s := (str_of_list h3.symm).symm
    have HX := Lib.hid (And.intro hx (And.intro h4 h1))
    clear hI h1 h3 h4 hx
    go_enter Tryz.func287, Tryz.ntmps287
    go_wp2_with (go_at_call 328; refine (C _).mono ?_; rintro e w' ⟨rfl, rfl⟩)
    go_ret3
    exact ⟨by rw [HX.out.1, HX.out.2.1, HX.out.2.2]; rfl, by (repeat' (first | (with_reducible exact Below.refl _ _) | (with_reducible assumption) | (with_reducible refine below_drewN ?_ _) | (with_reducible refine Below.drew ?_) | (with_reducible refine Below.setCell ?_ ?_ _) | (with_reducible refine Below.alloc ?_ ?_ _) | (with_reducible refine below_after ?_ ?_ (by assumption)) | (show _ ≤ _; first | omega | (simp; done) | (simp; omega))))⟩

theorem cut5_any (s : ByteArray) (w : World) (hs : s.size ≤ 9223372036854775806) :
    Calls Tryz.prog 246 #[.string s, .string ⟨#[46]⟩] w fun e w' => e = .returned (.tuple #[.string (str (wholeOf s.data.toList)), .string (str (restOf s.data.toList)), .bool (hasPt s.data.toList)]) ∧ Below w.heap.size w w' := by
  go_enter Tryz.func246, Tryz.ntmps246
  go_wp2_with fail
  refine (scut5_any s _ hs).mono ?_
  rintro e w' ⟨rfl, hb⟩
  go_wp2
  go_ret3
  exact ⟨rfl, hb⟩

/-! ### The three forms -/
set_option maxHeartbeats 1000000 in
set_option maxRecDepth 100000 in
theorem form1_any (b T : Nat) (x y : ByteArray) (p : Bool) (w : World) (h : RowAt w b T #[.string x, .string y, .bool p]) :
    Calls Tryz.prog 247 #[.pointer (some ⟨b, 0, none⟩)] w fun e w' => e = .returned (.bool (digs x.data.toList)) ∧ Below w.heap.size w w' := by
  obtain ⟨a1, a2, a3, a4, a5, a6⟩ := row_facts h
  go_enter Tryz.func247, Tryz.ntmps247
  go_wp2_with fail
  refine (digits_any x _).mono ?_
  rintro e w' ⟨rfl, hb⟩
  go_wp2
  go_ret
  exact ⟨rfl, hb⟩

theorem snoc5 {α : Type} {P : List α → Prop} (h0 : P []) (h1 : ∀ l a, P l → P (l ++ [a])) (l : List α) : P l := by
  have h : ∀ k : List α, P k.reverse := fun k => by
    induction k with
    | nil => exact h0
    | cons a k ih => rw [List.reverse_cons]; exact h1 _ _ ih
  have := h l.reverse
  rwa [List.reverse_reverse] at this

/-- A text ends in 0. -/
theorem ends0 (y : ByteArray) : Lib.hasSuffix y.data.toList (⟨#[48]⟩ : ByteArray).data.toList = (y.data.toList.getLast? == some 48) := by
  show List.isSuffixOf [48] y.data.toList = _
  generalize y.data.toList = l
  refine snoc5 (P := fun l => List.isSuffixOf [48] l = (l.getLast? == some 48)) rfl (fun l a _ => ?_) l
  simp [List.isSuffixOf, List.isPrefixOf]
  exact Bool.beq_comm

set_option maxHeartbeats 1000000 in
set_option maxRecDepth 100000 in
theorem form2_any (b T : Nat) (x y : ByteArray) (p : Bool) (w : World) (h : RowAt w b T #[.string x, .string y, .bool p]) (hy : y.size ≤ 9223372036854775806) :
    Calls Tryz.prog 249 #[.pointer (some ⟨b, 0, none⟩)] w fun e w' => e = .returned (.bool (!p || (digs y.data.toList && y.data.toList.getLast? != some 48))) ∧ Below w.heap.size w w' := by
  obtain ⟨a1, a2, a3, a4, a5, a6⟩ := row_facts h
  have D := digits_any y
  have E := fun W => Tryz.strings_HasSuffix y ⟨#[48]⟩ W (by omega)
  rw [ends0] at E
  obtain ⟨q, hq⟩ : ∃ q, digs y.data.toList = q := ⟨_, rfl⟩
  obtain ⟨r, hr⟩ : ∃ r, (y.data.toList.getLast? == some 48) = r := ⟨_, rfl⟩
  rw [show (y.data.toList.getLast? != some 48) = !r from by rw [← hr]; rfl, hq]
  rw [hq] at D
  rw [hr] at E
  clear hq hr hy
  cases p with
  | false =>
    go_enter Tryz.func249, Tryz.ntmps249
    go_wp2
    go_ret
    exact ⟨rfl, by (repeat' (first | (with_reducible exact Below.refl _ _) | (with_reducible assumption) | (with_reducible refine below_drewN ?_ _) | (with_reducible refine Below.drew ?_) | (with_reducible refine Below.setCell ?_ ?_ _) | (with_reducible refine Below.alloc ?_ ?_ _) | (with_reducible refine below_after ?_ ?_ (by assumption)) | (show _ ≤ _; first | omega | (simp; done) | (simp; omega))))⟩
  | true =>
    cases q with
    | false =>
      go_enter Tryz.func249, Tryz.ntmps249
      go_wp2_with fail
      refine (D _).mono ?_
      rintro e w1 ⟨rfl, hb⟩
      go_wp2
      go_ret
      exact ⟨rfl, hb⟩
    | true =>
      go_enter Tryz.func249, Tryz.ntmps249
      go_wp2_with fail
      refine (D _).mono ?_
      rintro e w1 ⟨rfl, hb⟩
      obtain ⟨c1, c2, c3, c4, c5, c6⟩ := row_facts (h.run hb)
      go_wp2_with fail
      refine (E _).mono ?_
      rintro e w2 ⟨rfl, rfl⟩
      go_wp2
      go_ret
      exact ⟨by cases r <;> rfl, hb⟩

theorem head0 (x : ByteArray) (h : 0 < x.size) : (x.data.toList.head? != some 48) = (((x[0]'h).toNat : Int) != 48) := by
  have h0 : x.data.toList.head? = some (x[0]'h) := by
    have hl : 0 < x.data.toList.length := by simpa using h
    rw [List.head?_eq_getElem?, List.getElem?_eq_getElem hl]
    rfl
  rw [h0]
  by_cases h1 : x[0]'h = 48
  · rw [h1]; rfl
  · have h2 : ¬ ((x[0]'h).toNat : Int) = 48 := fun e => h1 (UInt8.toNat_inj.1 (by simpa using Int.ofNat.inj e))
    rw [bne_iff_ne.2 h2]
    simpa using h1

set_option maxHeartbeats 1000000 in
set_option maxRecDepth 100000 in
theorem form3_any (b T : Nat) (x y : ByteArray) (p : Bool) (w : World) (h : RowAt w b T #[.string x, .string y, .bool p]) (hx : 0 < x.size) :
    Calls Tryz.prog 251 #[.pointer (some ⟨b, 0, none⟩)] w fun e w' => e = .returned (.bool (x.data.toList.length == 1 || x.data.toList.head? != some 48)) ∧ Below w.heap.size w w' := by
  obtain ⟨a1, a2, a3, a4, a5, a6⟩ := row_facts h
  rw [head0 x hx]
  have hl : (x.data.toList.length == 1) = ((x.size : Int) == 1) := by
    have : x.data.toList.length = x.size := by simp
    rw [this]
    by_cases h1 : x.size = 1
    · rw [h1]; rfl
    · rw [beq_eq_false_iff_ne.2 h1, beq_eq_false_iff_ne.2 (by omega)]
  rw [hl]
  obtain ⟨q, hq⟩ : ∃ q, ((x.size : Int) == 1) = q := ⟨_, rfl⟩
  have hx2 : (0 : Int) < (x.size : Int) := by omega
  rw [hq]
  cases q with
  | true =>
    go_enter Tryz.func251, Tryz.ntmps251
    go_wp2
    go_ret
    exact ⟨rfl, by (repeat' (first | (with_reducible exact Below.refl _ _) | (with_reducible assumption) | (with_reducible refine below_drewN ?_ _) | (with_reducible refine Below.drew ?_) | (with_reducible refine Below.setCell ?_ ?_ _) | (with_reducible refine Below.alloc ?_ ?_ _) | (with_reducible refine below_after ?_ ?_ (by assumption)) | (show _ ≤ _; first | omega | (simp; done) | (simp; omega))))⟩
  | false =>
    go_enter Tryz.func251, Tryz.ntmps251
    go_wp2
    go_ret
    exact ⟨rfl, by (repeat' (first | (with_reducible exact Below.refl _ _) | (with_reducible assumption) | (with_reducible refine below_drewN ?_ _) | (with_reducible refine Below.drew ?_) | (with_reducible refine Below.setCell ?_ ?_ _) | (with_reducible refine Below.alloc ?_ ?_ _) | (with_reducible refine below_after ?_ ?_ (by assumption)) | (show _ ≤ _; first | omega | (simp; done) | (simp; omega))))⟩
end Go.Proofs.YtjeigphhepngmaaGreatDoor
