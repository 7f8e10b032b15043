/-
  The two checks of numbers: what both sides say.
-/
import Derived.Test.YtndkpdiacabjgaaGreatDoorD5
import Derived.Test.YtndkpdiacabjgaaGreatDoorRow
import Derived.Test.YtndkpdiacabjgaaGreatDoorShf
import Derived.Deep.RegionHeld
namespace Go.Proofs.YtndkpdiacabjgaaGreatDoor
open Go.RowKit

/-- Three cells, stored one by one. -/
theorem RowAt.three {w : World} {k T : Nat} {a b c v0 v1 v2 : Value} (h : RowAt w k T #[a, b, c]) :
    RowAt (((w.setCell ⟨k, 0, none⟩ v0).setCell ⟨k, 1, none⟩ v1).setCell ⟨k, 2, none⟩ v2) k T #[v0, v1, v2] := by
  have h0 : RowAt _ k T #[v0, b, c] := RowAt.set (i := 0) (u := v0) h rfl
  have h1 : RowAt _ k T #[v0, v1, c] := RowAt.set (i := 1) (u := v1) h0 rfl
  exact RowAt.set h1 rfl

theorem idxByte_pt : ∀ l : List UInt8, Lib.indexByte l 46 = if hasPt l then ((wholeOf l).length : Int) else -1
  | [] => rfl
  | b :: l => by
    by_cases hb : b = 46
    · subst hb
      rfl
    · have hb2 : (b == 46) = false := beq_eq_false_iff_ne.2 hb
      have ih := idxByte_pt l
      unfold Lib.indexByte
      simp only [hasPt, wholeOf, hb, if_false]
      rw [ih]
      cases h : hasPt l with
      | false => simp [hb2]
      | true =>
        have h9 : (((wholeOf l).length : Int) == -1) = false := by rw [beq_eq_false_iff_ne]; omega
        simp [hb2, h9]

theorem wr_take {l a b : List UInt8} (h : l = a ++ 46 :: b) : l.take a.length = a := by
  subst h
  simp
theorem wr_drop {l a b : List UInt8} (h : l = a ++ 46 :: b) : l.drop (a.length + 1) = b := by
  subst h
  simp

set_option maxHeartbeats 1000000 in
set_option maxRecDepth 100000 in
theorem scut5_any (s : ByteArray) (w : World) (hs : s.size ≤ 9223372036854775806) :
    Calls Tryz.prog 67 #[.string s, .string ⟨#[46]⟩] w fun e w' => e = .returned (.tuple #[.string (str (wholeOf s.data.toList)), .string (str (restOf s.data.toList)), .bool (hasPt s.data.toList)]) ∧ Below w.heap.size w w' := by
  have hI := idxByte_pt s.data.toList
  have C := Tryz.stringslite_Index_one s 46
  rcases cut_pt_idx s.data.toList with ⟨h1, -, h3⟩ | ⟨h1, -, h3, h4⟩
  · rw [h1, if_pos rfl] at hI
    rw [hI] at C
    have hlen : s.size = (wholeOf s.data.toList).length + (1 + (restOf s.data.toList).length) := by
      have := congrArg List.length h3
      simp at this
      omega
    obtain ⟨k, hk⟩ : ∃ k, (wholeOf s.data.toList).length = k := ⟨_, rfl⟩
    rw [hk] at C hlen
    have hx1 : str (wholeOf s.data.toList) = s.extract 0 k := (str_of_list (by rw [take_extract, ← hk]; exact wr_take h3)).symm
    have hx2 : str (restOf s.data.toList) = s.extract (k + 1) s.size := (str_of_list (by rw [drop_extract, ← hk]; exact wr_drop h3)).symm
    have HX := Lib.hid (And.intro hx1 (And.intro hx2 h1))
    have hk1 : (k : Int) + 1 ≤ (s.size : Int) := by omega
    have hk2 : (k : Int) ≤ (s.size : Int) := by omega
    have hk3 : (k : Int) + 1 ≤ 9223372036854775807 := by omega
    clear hI h1 h3 hlen hk hx1 hx2
    go_enter Tryz.func67, Tryz.ntmps67
    go_wp2_with (go_at_call 81; refine (C _).mono ?_; rintro e w' ⟨rfl, rfl⟩)
    go_region
    go_wp2
    go_ret3
    exact ⟨by rw [HX.out.1, HX.out.2.1, HX.out.2.2]; rfl, by (repeat' (first | (with_reducible exact Below.refl _ _) | (with_reducible assumption) | (with_reducible refine below_drewN ?_ _) | (with_reducible refine Below.drew ?_) | (with_reducible refine Below.setCell ?_ ?_ _) | (with_reducible refine Below.alloc ?_ ?_ _) | (with_reducible refine below_after ?_ ?_ (by assumption)) | (show _ ≤ _; first | omega | (simp; done) | (simp; omega))))⟩
  · rw [h1, if_neg (by simp)] at hI
    rw [hI] at C
    have hx : str (wholeOf s.data.toList) = s := (str_of_list h3.symm).symm
    have HX := Lib.hid (And.intro hx (And.intro h4 h1))
    clear hI h1 h3 h4 hx
    go_enter Tryz.func67, Tryz.ntmps67
    go_wp2_with (go_at_call 81; refine (C _).mono ?_; rintro e w' ⟨rfl, rfl⟩)
    go_ret3
    exact ⟨by rw [HX.out.1, HX.out.2.1, HX.out.2.2]; rfl, by (repeat' (first | (with_reducible exact Below.refl _ _) | (with_reducible assumption) | (with_reducible refine below_drewN ?_ _) | (with_reducible refine Below.drew ?_) | (with_reducible refine Below.setCell ?_ ?_ _) | (with_reducible refine Below.alloc ?_ ?_ _) | (with_reducible refine below_after ?_ ?_ (by assumption)) | (show _ ≤ _; first | omega | (simp; done) | (simp; omega))))⟩

theorem cut5_any (s : ByteArray) (w : World) (hs : s.size ≤ 9223372036854775806) :
    Calls Tryz.prog 46 #[.string s, .string ⟨#[46]⟩] w fun e w' => e = .returned (.tuple #[.string (str (wholeOf s.data.toList)), .string (str (restOf s.data.toList)), .bool (hasPt s.data.toList)]) ∧ Below w.heap.size w w' := by
  go_enter Tryz.func46, Tryz.ntmps46
  go_wp2_with fail
  refine (scut5_any s _ hs).mono ?_
  rintro e w' ⟨rfl, hb⟩
  go_wp2
  go_ret3
  exact ⟨rfl, hb⟩

/-! ### The three forms -/
set_option maxHeartbeats 1000000 in
set_option maxRecDepth 100000 in
theorem form1_any (b T : Nat) (x y : ByteArray) (p : Bool) (w : World) (h : RowAt w b T #[.string x, .string y, .bool p]) :
    Calls Tryz.prog 47 #[.pointer (some ⟨b, 0, none⟩)] w fun e w' => e = .returned (.bool (digs x.data.toList)) ∧ Below w.heap.size w w' := by
  obtain ⟨a1, a2, a3, a4, a5, a6⟩ := row_facts h
  go_enter Tryz.func47, Tryz.ntmps47
  go_wp2_with fail
  refine (digits_any x _).mono ?_
  rintro e w' ⟨rfl, hb⟩
  go_wp2
  go_ret
  exact ⟨rfl, hb⟩

theorem snoc5 {α : Type} {P : List α → Prop} (h0 : P []) (h1 : ∀ l a, P l → P (l ++ [a])) (l : List α) : P l := by
  have h : ∀ k : List α, P k.reverse := fun k => by
    induction k with
    | nil => exact h0
    | cons a k ih => rw [List.reverse_cons]; exact h1 _ _ ih
  have := h l.reverse
  rwa [List.reverse_reverse] at this

/-- A text ends in 0. -/
theorem ends0 (y : ByteArray) : Lib.hasSuffix y.data.toList (⟨#[48]⟩ : ByteArray).data.toList = (y.data.toList.getLast? == some 48) := by
  show List.isSuffixOf [48] y.data.toList = _
  generalize y.data.toList = l
  refine snoc5 (P := fun l => List.isSuffixOf [48] l = (l.getLast? == some 48)) rfl (fun l a _ => ?_) l
  simp [List.isSuffixOf, List.isPrefixOf]
  exact Bool.beq_comm

set_option maxHeartbeats 1000000 in
set_option maxRecDepth 100000 in
theorem form2_any (b T : Nat) (x y : ByteArray) (p : Bool) (w : World) (h : RowAt w b T #[.string x, .string y, .bool p]) (hy : y.size ≤ 9223372036854775806) :
    Calls Tryz.prog 49 #[.pointer (some ⟨b, 0, none⟩)] w fun e w' => e = .returned (.bool (!p || (digs y.data.toList && y.data.toList.getLast? != some 48))) ∧ Below w.heap.size w w' := by
  obtain ⟨a1, a2, a3, a4, a5, a6⟩ := row_facts h
  have D := digits_any y
  have E := fun W => Tryz.strings_HasSuffix y ⟨#[48]⟩ W (by omega)
  rw [ends0] at E
  obtain ⟨q, hq⟩ : ∃ q, digs y.data.toList = q := ⟨_, rfl⟩
  obtain ⟨r, hr⟩ : ∃ r, (y.data.toList.getLast? == some 48) = r := ⟨_, rfl⟩
  rw [show (y.data.toList.getLast? != some 48) = !r from by rw [← hr]; rfl, hq]
  rw [hq] at D
  rw [hr] at E
  clear hq hr hy
  cases p with
  | false =>
    go_enter Tryz.func49, Tryz.ntmps49
    go_wp2
    go_ret
    exact ⟨rfl, by (repeat' (first | (with_reducible exact Below.refl _ _) | (with_reducible assumption) | (with_reducible refine below_drewN ?_ _) | (with_reducible refine Below.drew ?_) | (with_reducible refine Below.setCell ?_ ?_ _) | (with_reducible refine Below.alloc ?_ ?_ _) | (with_reducible refine below_after ?_ ?_ (by assumption)) | (show _ ≤ _; first | omega | (simp; done) | (simp; omega))))⟩
  | true =>
    cases q with
    | false =>
      go_enter Tryz.func49, Tryz.ntmps49
      go_wp2_with fail
      refine (D _).mono ?_
      rintro e w1 ⟨rfl, hb⟩
      go_wp2
      go_ret
      exact ⟨rfl, hb⟩
    | true =>
      go_enter Tryz.func49, Tryz.ntmps49
      go_wp2_with fail
      refine (D _).mono ?_
      rintro e w1 ⟨rfl, hb⟩
      obtain ⟨c1, c2, c3, c4, c5, c6⟩ := row_facts (h.run hb)
      go_wp2_with fail
      refine (E _).mono ?_
      rintro e w2 ⟨rfl, rfl⟩
      go_wp2
      go_ret
      exact ⟨by cases r <;> rfl, hb⟩

theorem head0 (x : ByteArray) (h : 0 < x.size) : (x.data.toList.head? != some 48) = (((x[0]'h).toNat : Int) != 48) := by
  have h0 : x.data.toList.head? = some (x[0]'h) := by
    have hl : 0 < x.data.toList.length := by simpa using h
    rw [List.head?_eq_getElem?, List.getElem?_eq_getElem hl]
    rfl
  rw [h0]
  by_cases h1 : x[0]'h = 48
  · rw [h1]; rfl
  · have h2 : ¬ ((x[0]'h).toNat : Int) = 48 := fun e => h1 (UInt8.toNat_inj.1 (by simpa using Int.ofNat.inj e))
    rw [bne_iff_ne.2 h2]
    simpa using h1

set_option maxHeartbeats 1000000 in
set_option maxRecDepth 100000 in
theorem form3_any (b T : Nat) (x y : ByteArray) (p : Bool) (w : World) (h : RowAt w b T #[.string x, .string y, .bool p]) (hx : 0 < x.size) :
    Calls Tryz.prog 51 #[.pointer (some ⟨b, 0, none⟩)] w fun e w' => e = .returned (.bool (x.data.toList.length == 1 || x.data.toList.head? != some 48)) ∧ Below w.heap.size w w' := by
  obtain ⟨a1, a2, a3, a4, a5, a6⟩ := row_facts h
  rw [head0 x hx]
  have hl : (x.data.toList.length == 1) = ((x.size : Int) == 1) := by
    have : x.data.toList.length = x.size := by simp
    rw [this]
    by_cases h1 : x.size = 1
    · rw [h1]; rfl
    · rw [beq_eq_false_iff_ne.2 h1, beq_eq_false_iff_ne.2 (by omega)]
  rw [hl]
  obtain ⟨q, hq⟩ : ∃ q, ((x.size : Int) == 1) = q := ⟨_, rfl⟩
  have hx2 : (0 : Int) < (x.size : Int) := by omega
  rw [hq]
  cases q with
  | true =>
    go_enter Tryz.func51, Tryz.ntmps51
    go_wp2
    go_ret
    exact ⟨rfl, by (repeat' (first | (with_reducible exact Below.refl _ _) | (with_reducible assumption) | (with_reducible refine below_drewN ?_ _) | (with_reducible refine Below.drew ?_) | (with_reducible refine Below.setCell ?_ ?_ _) | (with_reducible refine Below.alloc ?_ ?_ _) | (with_reducible refine below_after ?_ ?_ (by assumption)) | (show _ ≤ _; first | omega | (simp; done) | (simp; omega))))⟩
  | false =>
    go_enter Tryz.func51, Tryz.ntmps51
    go_wp2
    go_ret
    exact ⟨rfl, by (repeat' (first | (with_reducible exact Below.refl _ _) | (with_reducible assumption) | (with_reducible refine below_drewN ?_ _) | (with_reducible refine Below.drew ?_) | (with_reducible refine Below.setCell ?_ ?_ _) | (with_reducible refine Below.alloc ?_ ?_ _) | (with_reducible refine below_after ?_ ?_ (by assumption)) | (show _ ≤ _; first | omega | (simp; done) | (simp; omega))))⟩
end Go.Proofs.YtndkpdiacabjgaaGreatDoor
