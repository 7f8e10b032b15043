/- -/
import Derived.Test.YtjeigphhepngmaaGreatDoorD5
import Derived.Test.YtjeigphhepngmaaGreatDoorYe
import Derived.Test.YtjeigphhepngmaaGreatDoorShf
import Derived.Deep.RegionHeld
import Derived.Lib.AtoiErrMem
import Derived.Deep.RegionHeld3
import Derived.Test.YtjeigphhepngmaaGreatDoorJb
namespace Go.Proofs.YtjeigphhepngmaaGreatDoor
open Go.RowKit
open Go.Lib (hid)
set_option maxHeartbeats 8000000
set_option maxRecDepth 100000
theorem RowAt.three {w : World} {k T : Nat} {a b c v0 v1 v2 : Value} (h : RowAt w k T #[a, b, c]) :
  RowAt (((w.setCell ⟨k, 0, none⟩ v0).setCell ⟨k, 1, none⟩ v1).setCell ⟨k, 2, none⟩ v2) k T #[v0, v1, v2] := by
 have h0 : RowAt _ k T #[v0, b, c] := RowAt.set (i := 0) (u := v0) h rfl
 have h1 : RowAt _ k T #[v0, v1, c] := RowAt.set (i := 1) (u := v1) h0 rfl
 exact RowAt.set h1 rfl
theorem ziw : ∀ l : List UInt8, Lib.indexByte l 46 = if hasPt l then ((wholeOf l).length : Int) else -1
 | [] => rfl
 | b :: l => by
   by_cases hb : b = 46
   · subst hb
     rfl
   have hb2 : (b == 46) = false := beq_eq_false_iff_ne.2 hb
   have ih := ziw l
   unfold Lib.indexByte
   simp only [hasPt, wholeOf, hb, if_false]
   rw [ih]
   cases h : hasPt l with
   | false => simp [hb2]
   | true =>
     have h9 : (((wholeOf l).length : Int) == -1) = false := by rw [beq_eq_false_iff_ne]; omega
     simp [hb2, h9]
theorem zxb {l a b : List UInt8} (h : l = a ++ 46 :: b) : l.take a.length = a := by
 subst h
 simp
theorem zon {l a b : List UInt8} (h : l = a ++ 46 :: b) : l.drop (a.length + 1) = b := by
 subst h
 simp
theorem zlx (s : ByteArray) (w : World) (hs : s.size ≤ 9223372036854775806) :
   Calls Tryz.prog 287 #[.string s, .string ⟨#[46]⟩] w fun e w' => e = .returned (.tuple #[.string (str (wholeOf s.data.toList)), .string (str (restOf s.data.toList)), .bool (hasPt s.data.toList)]) ∧ Below w.heap.size w w' := by
 have hI := ziw s.data.toList
 have C := Tryz.stringslite_Index_one s 46
 rcases zen s.data.toList with ⟨h1, -, h3⟩ | ⟨h1, -, h3, h4⟩
 · rw [h1, if_pos rfl] at hI
   rw [hI] at C
   have hlen : s.size = (wholeOf s.data.toList).length + (1 + (restOf s.data.toList).length) := by
    have := congrArg List.length h3
    simp at this
    omega
   obtain ⟨k, hk⟩ : ∃ k, (wholeOf s.data.toList).length = k := ⟨_, rfl⟩
   rw [hk] at C hlen
   have hx1 : str (wholeOf s.data.toList) = s.extract 0 k := (zcp (by rw [zgb, ← hk]; exact zxb h3)).symm
   have hx2 : str (restOf s.data.toList) = s.extract (k + 1) s.size := (zcp (by rw [zlp, ← hk]; exact zon h3)).symm
   have HX := hid (And.intro hx1 (And.intro hx2 h1))
   have hk1 : (k : Int) + 1 ≤ (s.size : Int) := by omega
   have hk2 : (k : Int) ≤ (s.size : Int) := by omega
   have hk3 : (k : Int) + 1 ≤ 9223372036854775807 := by omega
   clear hI h1 h3 hlen hk hx1 hx2
   go_enter Tryz.func287, Tryz.ntmps287
   go_wp2_with (go_at_call 328; refine (C _).mono ?_; rintro e w' ⟨rfl, rfl⟩)
   go_region
   go_wp2
   go_ret3
   exact ⟨by rw [HX.out.1, HX.out.2.1, HX.out.2.2]; rfl, by (repeat' (first | (with_reducible exact Below.refl _ _) | (with_reducible assumption) | (with_reducible refine zbc ?_ _) | (with_reducible refine Below.drew ?_) | (with_reducible refine Below.setCell ?_ ?_ _) | (with_reducible refine Below.alloc ?_ ?_ _) | (with_reducible refine zag ?_ ?_ (by assumption)) | (show _ ≤ _; first | omega | (simp; done) | (simp; omega))))⟩
 rw [h1, if_neg (by simp)] at hI
 rw [hI] at C
 have hx : str (wholeOf s.data.toList) = s := (zcp h3.symm).symm
 have HX := hid (And.intro hx (And.intro h4 h1))
 clear hI h1 h3 h4 hx
 go_enter Tryz.func287, Tryz.ntmps287
 go_wp2_with (go_at_call 328; refine (C _).mono ?_; rintro e w' ⟨rfl, rfl⟩)
 go_ret3
 exact ⟨by rw [HX.out.1, HX.out.2.1, HX.out.2.2]; rfl, by (repeat' (first | (with_reducible exact Below.refl _ _) | (with_reducible assumption) | (with_reducible refine zbc ?_ _) | (with_reducible refine Below.drew ?_) | (with_reducible refine Below.setCell ?_ ?_ _) | (with_reducible refine Below.alloc ?_ ?_ _) | (with_reducible refine zag ?_ ?_ (by assumption)) | (show _ ≤ _; first | omega | (simp; done) | (simp; omega))))⟩
theorem zd7 (s : ByteArray) (w : World) (hs : s.size ≤ 9223372036854775806) :
  Calls Tryz.prog 246 #[.string s, .string ⟨#[46]⟩] w fun e w' => e = .returned (.tuple #[.string (str (wholeOf s.data.toList)), .string (str (restOf s.data.toList)), .bool (hasPt s.data.toList)]) ∧ Below w.heap.size w w' := by
 go_enter Tryz.func246, Tryz.ntmps246
 go_wp2_with fail
 refine (zlx s _ hs).mono ?_
 rintro e w' ⟨rfl, hb⟩
 go_wp2
 go_ret3
 exact ⟨rfl, hb⟩
theorem zvk (b T : Nat) (x y : ByteArray) (p : Bool) (w : World) (h : RowAt w b T #[.string x, .string y, .bool p]) :
  Calls Tryz.prog 247 #[.pointer (some ⟨b, 0, none⟩)] w fun e w' => e = .returned (.bool (digs x.data.toList)) ∧ Below w.heap.size w w' := by
 obtain ⟨a1, a2, a3, a4, a5, a6⟩ := zaa h
 go_enter Tryz.func247, Tryz.ntmps247
 go_wp2_with fail
 refine (zdd x _).mono ?_
 rintro e w' ⟨rfl, hb⟩
 go_wp2
 go_ret
 exact ⟨rfl, hb⟩
theorem snoc5 {α : Type} {P : List α → Prop} (h0 : P []) (h1 : ∀ l a, P l → P (l ++ [a])) (l : List α) : P l := by
 have h : ∀ k : List α, P k.reverse := fun k => by
  induction k with
  | nil => exact h0
  | cons a k ih => rw [List.reverse_cons]; exact h1 _ _ ih
 have := h l.reverse
 rwa [List.reverse_reverse] at this
theorem ends0 (y : ByteArray) : Lib.hasSuffix y.data.toList (⟨#[48]⟩ : ByteArray).data.toList = (y.data.toList.getLast? == some 48) := by
 show List.isSuffixOf [48] y.data.toList = _
 generalize y.data.toList = l
 refine snoc5 (P := fun l => List.isSuffixOf [48] l = (l.getLast? == some 48)) rfl (fun l a _ => ?_) l
 simp [List.isSuffixOf, List.isPrefixOf]
 exact Bool.beq_comm
theorem zqt (b T : Nat) (x y : ByteArray) (p : Bool) (w : World) (h : RowAt w b T #[.string x, .string y, .bool p]) (hy : y.size ≤ 9223372036854775806) :
   Calls Tryz.prog 249 #[.pointer (some ⟨b, 0, none⟩)] w fun e w' => e = .returned (.bool (!p || (digs y.data.toList && y.data.toList.getLast? != some 48))) ∧ Below w.heap.size w w' := by
 obtain ⟨a1, a2, a3, a4, a5, a6⟩ := zaa h
 have D := zdd y
 have E := fun W => Tryz.strings_HasSuffix y ⟨#[48]⟩ W (by omega)
 rw [ends0] at E
 obtain ⟨q, hq⟩ : ∃ q, digs y.data.toList = q := ⟨_, rfl⟩
 obtain ⟨r, hr⟩ : ∃ r, (y.data.toList.getLast? == some 48) = r := ⟨_, rfl⟩
 rw [show (y.data.toList.getLast? != some 48) = !r from by rw [← hr]; rfl, hq]
 rw [hq] at D
 rw [hr] at E
 clear hq hr hy
 cases p with
 | false =>
   go_enter Tryz.func249, Tryz.ntmps249
   go_wp2
   go_ret
   exact ⟨rfl, by (repeat' (first | (with_reducible exact Below.refl _ _) | (with_reducible assumption) | (with_reducible refine zbc ?_ _) | (with_reducible refine Below.drew ?_) | (with_reducible refine Below.setCell ?_ ?_ _) | (with_reducible refine Below.alloc ?_ ?_ _) | (with_reducible refine zag ?_ ?_ (by assumption)) | (show _ ≤ _; first | omega | (simp; done) | (simp; omega))))⟩
 | true =>
   cases q with
   | false =>
     go_enter Tryz.func249, Tryz.ntmps249
     go_wp2_with fail
     refine (D _).mono ?_
     rintro e w1 ⟨rfl, hb⟩
     go_wp2
     go_ret
     exact ⟨rfl, hb⟩
   | true =>
     go_enter Tryz.func249, Tryz.ntmps249
     go_wp2_with fail
     refine (D _).mono ?_
     rintro e w1 ⟨rfl, hb⟩
     obtain ⟨c1, c2, c3, c4, c5, c6⟩ := zaa (h.run hb)
     go_wp2_with fail
     refine (E _).mono ?_
     rintro e w2 ⟨rfl, rfl⟩
     go_wp2
     go_ret
     exact ⟨by cases r <;> rfl, hb⟩
theorem head0 (x : ByteArray) (h : 0 < x.size) : (x.data.toList.head? != some 48) = (((x[0]'h).toNat : Int) != 48) := by
 have h0 : x.data.toList.head? = some (x[0]'h) := by
  have hl : 0 < x.data.toList.length := by simpa using h
  rw [List.head?_eq_getElem?, List.getElem?_eq_getElem hl]
  rfl
 rw [h0]
 by_cases h1 : x[0]'h = 48
 · rw [h1]; rfl
 have h2 : ¬ ((x[0]'h).toNat : Int) = 48 := fun e => h1 (UInt8.toNat_inj.1 (by simpa using Int.ofNat.inj e))
 rw [bne_iff_ne.2 h2]
 simpa using h1
theorem zok (b T : Nat) (x y : ByteArray) (p : Bool) (w : World) (h : RowAt w b T #[.string x, .string y, .bool p]) (hx : 0 < x.size) :
   Calls Tryz.prog 251 #[.pointer (some ⟨b, 0, none⟩)] w fun e w' => e = .returned (.bool (x.data.toList.length == 1 || x.data.toList.head? != some 48)) ∧ Below w.heap.size w w' := by
 obtain ⟨a1, a2, a3, a4, a5, a6⟩ := zaa h
 rw [head0 x hx]
 have hl : (x.data.toList.length == 1) = ((x.size : Int) == 1) := by
   have : x.data.toList.length = x.size := by simp
   rw [this]
   by_cases h1 : x.size = 1
   · rw [h1]; rfl
   rw [beq_eq_false_iff_ne.2 h1, beq_eq_false_iff_ne.2 (by omega)]
 rw [hl]
 obtain ⟨q, hq⟩ : ∃ q, ((x.size : Int) == 1) = q := ⟨_, rfl⟩
 have hx2 : (0 : Int) < (x.size : Int) := by omega
 rw [hq]
 cases q with
 | true =>
   go_enter Tryz.func251, Tryz.ntmps251
   go_wp2
   go_ret
   exact ⟨rfl, by (repeat' (first | (with_reducible exact Below.refl _ _) | (with_reducible assumption) | (with_reducible refine zbc ?_ _) | (with_reducible refine Below.drew ?_) | (with_reducible refine Below.setCell ?_ ?_ _) | (with_reducible refine Below.alloc ?_ ?_ _) | (with_reducible refine zag ?_ ?_ (by assumption)) | (show _ ≤ _; first | omega | (simp; done) | (simp; omega))))⟩
 | false =>
   go_enter Tryz.func251, Tryz.ntmps251
   go_wp2
   go_ret
   exact ⟨rfl, by (repeat' (first | (with_reducible exact Below.refl _ _) | (with_reducible assumption) | (with_reducible refine zbc ?_ _) | (with_reducible refine Below.drew ?_) | (with_reducible refine Below.setCell ?_ ?_ _) | (with_reducible refine Below.alloc ?_ ?_ _) | (with_reducible refine zag ?_ ?_ (by assumption)) | (show _ ≤ _; first | omega | (simp; done) | (simp; omega))))⟩
theorem zbj (l : List UInt8) : (str l).data.toList = l := by simp [str]
theorem zal (l : List UInt8) : (str l).size = l.length := by
 have : (str l).data.toList.length = (str l).size := by simp
 rw [← this, zbj]
theorem zco {l : List UInt8} (h : formE (wholeOf l) (restOf l) (hasPt l) = false) : chk5 l = 3 := by rw [chk5, if_pos h]
theorem zgg {l : List UInt8} (h : formE (wholeOf l) (restOf l) (hasPt l) = true) : chk5 l = if l = [48] ∨ 4 < (wholeOf l).length ∨ 3 < (restOf l).length then 2 else 0 := by
 rw [chk5, if_neg (by rw [h]; simp)]
def formFns (p : Nat) : Array Value := #[.func (.func 247) #[] #[.pointer (some ⟨p, 0, none⟩)], .func (.func 249) #[] #[.pointer (some ⟨p, 0, none⟩)], .func (.func 251) #[] #[.pointer (some ⟨p, 0, none⟩)]]
theorem zc6 : ∀ l : List UInt8, (wholeOf l).length ≤ l.length ∧ (restOf l).length ≤ l.length
 | [] => ⟨Nat.le_refl _, Nat.le_refl _⟩
 | b :: l => by
   by_cases hb : b = 46
   · simp [wholeOf, restOf, hb]
   have := zc6 l
   simp [wholeOf, restOf, hb]
   omega
theorem zcs (s : ByteArray) (w : World) (hs : s.size ≤ 9223372036854775806) :
  Calls Tryz.prog 153 #[.string s] w fun e w' => e = .returned (.int .i64 (chk5 s.data.toList)) ∧ Below w.heap.size w w' := by
 have C := zd7 s
 have hlr : (restOf s.data.toList).length ≤ s.size := by have := (zc6 s.data.toList).2; simpa using this
 have hlw : (wholeOf s.data.toList).length ≤ s.size := by have := (zc6 s.data.toList).1; simpa using this
 obtain ⟨x, hx⟩ : ∃ x, str (wholeOf s.data.toList) = x := ⟨_, rfl⟩
 obtain ⟨y, hy⟩ : ∃ y, str (restOf s.data.toList) = y := ⟨_, rfl⟩
 obtain ⟨p, hp⟩ : ∃ p, hasPt s.data.toList = p := ⟨_, rfl⟩
 have hxl : x.data.toList = wholeOf s.data.toList := by rw [← hx, zbj]
 have hyl : y.data.toList = restOf s.data.toList := by rw [← hy, zbj]
 have hxs : x.size = (wholeOf s.data.toList).length := by rw [← hx, zal]
 have hys : y.size = (restOf s.data.toList).length := by rw [← hy, zal]
 have hys2 : y.size ≤ 9223372036854775806 := by omega
 have hform : formE (wholeOf s.data.toList) (restOf s.data.toList) (hasPt s.data.toList) = (digs x.data.toList && ((!p || (digs y.data.toList && y.data.toList.getLast? != some 48)) && (x.data.toList.length == 1 || x.data.toList.head? != some 48))) := by
  rw [hxl, hyl, hp]; rfl
 have hx0 : digs x.data.toList = true → 0 < x.size := fun h => by
  have : x.data.toList.length = x.size := by simp
  cases hh : x.data.toList with
  | nil => rw [hh] at h; simp [digs] at h
  | cons a t => rw [hh] at this; simp at this; omega
 rw [hx, hy, hp] at C
 have F1 := fun b T W h => zvk b T x y p W h
 have F2 := fun b T W h => zqt b T x y p W h hys2
 have F3 := fun b T W h => zok b T x y p W h
 obtain ⟨q1, hq1⟩ : ∃ q, digs x.data.toList = q := ⟨_, rfl⟩
 obtain ⟨q2, hq2⟩ : ∃ q, (!p || (digs y.data.toList && y.data.toList.getLast? != some 48)) = q := ⟨_, rfl⟩
 obtain ⟨q3, hq3⟩ : ∃ q, (x.data.toList.length == 1 || x.data.toList.head? != some 48) = q := ⟨_, rfl⟩
 rw [hq1, hq2, hq3] at hform
 rw [hq1] at F1 hx0
 rw [hq2] at F2
 rw [hq3] at F3
 obtain ⟨z, hz⟩ : ∃ z, (s.toList == [48]) = z := ⟨_, rfl⟩
 have hz2 : (s.data.toList = [48]) ↔ z = true := by rw [← hz, Lib.toList_data]; simp
 have HF := hid hform
 have HL := hid (And.intro hxs (And.intro hys hz2))
 have HC := hid (C · (by omega))
 have H1 := hid F1
 have H2 := hid F2
 have H3 := hid F3
 have H0 := hid hx0
 clear C hx hy hp hxl hyl hxs hys hys2 hform hq1 hq2 hq3 F1 F2 F3 hx0 hz2 hs hlr hlw
 go_enter Tryz.func153, Tryz.ntmps153
 go_wp2_with fail
 refine (HC.out _).mono ?_
 rintro e w1 ⟨rfl, hb⟩
 have hw1 := hb.size
 (try simp at hw1)
 have hR : RowAt w1 w.heap.size 322 #[.string ⟨#[]⟩, .string ⟨#[]⟩, .bool false] := (by (repeat' (first | (with_reducible assumption) | (with_reducible refine RowAt.drewN ?_ _) | (with_reducible refine RowAt.drew ?_) | (with_reducible apply RowAt.six) | (with_reducible apply RowAt.seven) | ((with_reducible refine RowAt.mk ?_ ?_); (focus (first | rfl | (simp; done))); rfl) | (with_reducible refine RowAt.alloc ?_ _) | (with_reducible refine RowAt.far ?_ ?_) | (with_reducible refine RowAt.run ?_ (by assumption)) | (with_reducible refine RowAt.below ?_ (by assumption) ?_) | (with_reducible refine RowAt.upd ?_ (by assumption) ?_) | (show _ < _; first | omega | (simp; done) | (simp; omega)) | (show ¬ _ = _; first | omega | (simp; done) | (simp; omega)) | exact rfl))); obtain ⟨hRa, hRb, hRc, hRd, hRe, hRf⟩ := zaa hR
 go_wp2
 go_loopw [6, 22] (fun _ i wr => ∃ k : Nat, k ≤ 3 ∧ i = .int .i64 k ∧ Hid ((1 ≤ k → q1 = true) ∧ (2 ≤ k → q2 = true) ∧ (3 ≤ k → q3 = true)) ∧ RowAt wr w.heap.size 322 #[.string x, .string y, .bool p] ∧ RowAt wr w1.heap.size 33 (formFns w.heap.size) ∧ Below w.heap.size w wr) (fun _ i _ => 3 - (intOf i).toNat)
 case atStart => exact ⟨0, by omega, rfl, by simp [Hid], (RowAt.three hR).alloc _, RowAt.mk (by simp) rfl, by (repeat' (first | (with_reducible exact Below.refl _ _) | (with_reducible assumption) | (with_reducible refine zbc ?_ _) | (with_reducible refine Below.drew ?_) | (with_reducible refine Below.setCell ?_ ?_ _) | (with_reducible refine Below.alloc ?_ ?_ _) | (with_reducible refine zag ?_ ?_ (by assumption)) | (show _ ≤ _; first | omega | (simp; done) | (simp; omega))))⟩
 case round =>
  obtain ⟨k, hk, rfl, hqs, hr1, hr2, hbel⟩ := hrel
  obtain ⟨a1, a2, a3, a4, a5, a6⟩ := zaa hr1
  obtain ⟨b1, b2, b3, b4, b5, b6⟩ := zaa hr2
  simp only [formFns] at b1
  have hk4 : k = 0 ∨ k = 1 ∨ k = 2 ∨ k = 3 := by omega
  rcases hk4 with rfl | rfl | rfl | rfl
  · go_wp2_with fail
    refine (H1.out _ _ _ hr1).mono ?_
    rintro e w3 ⟨rfl, hb3⟩
    have r1 := hr1.run hb3
    have r2 := hr2.run hb3
    cases q1 with
    | false =>
      go_wp2
      go_ret
      exact ⟨zab (zco (by rw [HF.out]; rfl)).symm, zay hbel hb3⟩
    | true =>
      go_wp2
      go_roundw
      case rel => exact ⟨1, by omega, by go_num, by simp [Hid], r1, r2, zay hbel hb3⟩
      case measure => simp [intOf]
  · go_wp2_with fail
    refine (H2.out _ _ _ hr1).mono ?_
    rintro e w3 ⟨rfl, hb3⟩
    have r1 := hr1.run hb3
    have r2 := hr2.run hb3
    have hq1 := hqs.out.1 (by omega)
    cases q2 with
    | false =>
      go_wp2
      go_ret
      exact ⟨zab (zco (by rw [HF.out]; simp)).symm, zay hbel hb3⟩
    | true =>
      go_wp2
      go_roundw
      case rel => exact ⟨2, by omega, by go_num, by simp [Hid, hq1], r1, r2, zay hbel hb3⟩
      case measure => simp [intOf]
  · have hq1 := hqs.out.1 (by omega)
    have hq2 := hqs.out.2.1 (by omega)
    go_wp2_with fail
    refine (H3.out _ _ _ hr1 (H0.out hq1)).mono ?_
    rintro e w3 ⟨rfl, hb3⟩
    have r1 := hr1.run hb3
    have r2 := hr2.run hb3
    cases q3 with
    | false =>
      go_wp2
      go_ret
      exact ⟨zab (zco (by rw [HF.out]; simp)).symm, zay hbel hb3⟩
    | true =>
      go_wp2
      go_roundw
      case rel => exact ⟨3, by omega, by go_num, by simp [Hid, hq1, hq2], r1, r2, zay hbel hb3⟩
      case measure => simp [intOf]
  have hq1 := hqs.out.1 (by omega)
  have hq2 := hqs.out.2.1 (by omega)
  have hq3 := hqs.out.2.2 (by omega)
  have hfine := zgg (l := s.data.toList) (by rw [HF.out, hq1, hq2, hq3]; rfl)
  have HFI := hid hfine
  clear hfine hq1 hq2 hq3
  go_wp2
  all_goals go_ret
  all_goals
    refine ⟨zab ?_, by (repeat' (first | (with_reducible exact Below.refl _ _) | (with_reducible assumption) | (with_reducible refine zbc ?_ _) | (with_reducible refine Below.drew ?_) | (with_reducible refine Below.setCell ?_ ?_ _) | (with_reducible refine Below.alloc ?_ ?_ _) | (with_reducible refine zag ?_ ?_ (by assumption)) | (show _ ≤ _; first | omega | (simp; done) | (simp; omega))))⟩
    obtain ⟨l1, l2, l3⟩ := HL.out
    rw [HFI.out, ← l1, ← l2]
    simp_all
    try omega
theorem last0 (y : ByteArray) (n : Nat) (h : y.size = n + 1) : (y.data.toList.getLast? == some 48) = (((y[n]'(by omega)).toNat : Int) == 48) := by
 have h0 : y.data.toList.getLast? = some (y[n]'(by omega)) := by
  have hl : y.data.toList.length = n + 1 := by simpa using h
  rw [List.getLast?_eq_getElem?, hl, List.getElem?_eq_getElem (by omega)]
  rfl
 rw [h0]
 by_cases h1 : y[n]'(by omega) = 48
 · rw [h1]; rfl
 have h2 : ¬ ((y[n]'(by omega)).toNat : Int) = 48 := fun e => h1 (UInt8.toNat_inj.1 (by simpa using Int.ofNat.inj e))
 rw [beq_eq_false_iff_ne.2 h2]
 simpa using h1
theorem zll {x : ByteArray} (h : digs x.data.toList = true) : 0 < x.size := by
 have : x.data.toList.length = x.size := by simp
 cases hh : x.data.toList with
 | nil => rw [hh] at h; simp [digs] at h
 | cons a t => rw [hh] at this; simp at this; omega
theorem ziq (s : ByteArray) (w : World) (hs : s.size ≤ 9223372036854775806) :
   Calls Tryz.prog 166 #[.string s] w fun e w' => e = .returned (.int .i64 (chk5 s.data.toList)) ∧ Below w.heap.size w w' := by
 have C := fun W => zi5 s W (by omega)
 have hlr : (restOf s.data.toList).length ≤ s.size := by have := (zc6 s.data.toList).2; simpa using this
 have hlw : (wholeOf s.data.toList).length ≤ s.size := by have := (zc6 s.data.toList).1; simpa using this
 obtain ⟨x, hx⟩ : ∃ x, str (wholeOf s.data.toList) = x := ⟨_, rfl⟩
 obtain ⟨y, hy⟩ : ∃ y, str (restOf s.data.toList) = y := ⟨_, rfl⟩
 obtain ⟨p, hp⟩ : ∃ p, hasPt s.data.toList = p := ⟨_, rfl⟩
 have hxl : x.data.toList = wholeOf s.data.toList := by rw [← hx, zbj]
 have hyl : y.data.toList = restOf s.data.toList := by rw [← hy, zbj]
 have hxs : x.size = (wholeOf s.data.toList).length := by rw [← hx, zal]
 have hys : y.size = (restOf s.data.toList).length := by rw [← hy, zal]
 have hys2 : y.size ≤ 9223372036854775806 := by omega
 have hxs2 : x.size ≤ 9223372036854775806 := by omega
 have hform : formE (wholeOf s.data.toList) (restOf s.data.toList) (hasPt s.data.toList) = (digs x.data.toList && ((!p || (digs y.data.toList && y.data.toList.getLast? != some 48)) && (x.data.toList.length == 1 || x.data.toList.head? != some 48))) := by
   rw [hxl, hyl, hp]; rfl
 have D1 := fun W => zi0 x W (by omega)
 have D2 := fun W => zi0 y W (by omega)
 rw [hx, hy, hp] at C
 have hlen : x.data.toList.length = x.size := by simp
 rw [hlen] at hform
 obtain ⟨z, hz⟩ : ∃ z, (s.toList == [48]) = z := ⟨_, rfl⟩
 have hz2 : (s.data.toList = [48]) ↔ z = true := by rw [← hz, Lib.toList_data]; simp
 have HL := hid (And.intro hxs (And.intro hys hz2))
 have hx0 : digs x.data.toList = true → 0 < x.size := zll
 have hy0 : digs y.data.toList = true → 0 < y.size := zll
 clear hx hy hp hxl hyl hxs hys hz2 hs hlr hlw hlen
 obtain ⟨q1, hq1⟩ : ∃ q, digs x.data.toList = q := ⟨_, rfl⟩
 obtain ⟨q2, hq2⟩ : ∃ q, digs y.data.toList = q := ⟨_, rfl⟩
 rw [hq1] at D1 hx0 hform
 rw [hq2] at D2 hy0 hform
 have HC := hid C
 have H1 := hid D1
 have H2 := hid D2
 clear C D1 D2 hq1 hq2
 cases q1 with
 | false =>
   have HF := hid (zco (l := s.data.toList) (by rw [hform]; rfl))
   clear hform hx0 hy0
   go_enter Tryz.func166, Tryz.ntmps166
   go_wp2_with fail
   refine (HC.out _).mono ?_
   rintro e w1 ⟨rfl, hb⟩
   go_wp2_with fail
   refine (H1.out _).mono ?_
   rintro e w2 ⟨rfl, rfl⟩
   go_wp2
   go_ret
   exact ⟨zab HF.out.symm, hb⟩
 | true =>
   obtain ⟨n, hn⟩ : ∃ n, x.size = n + 1 := ⟨x.size - 1, by have := hx0 rfl; omega⟩
   have hx1 : 0 < x.size := by rw [hn]; exact Nat.succ_pos n
   have hxp : (0 : Int) < (x.size : Int) := by omega
   rw [head0 x hx1] at hform
   obtain ⟨h0, hh0⟩ : ∃ q, (((x[0]'hx1).toNat : Int) == 48) = q := ⟨_, rfl⟩
   rw [show (((x[0]'hx1).toNat : Int) != 48) = !h0 from by rw [← hh0]; rfl] at hform
   have hone : (x.size == 1) = !decide (1 < (x.size : Int)) := by
     by_cases h : x.size = 1
     · simp [h]
     rw [beq_eq_false_iff_ne.2 h, decide_eq_true (by omega)]; rfl
   rw [hone] at hform
   obtain ⟨g1, hg1⟩ : ∃ q, decide (1 < (x.size : Int)) = q := ⟨_, rfl⟩
   rw [hg1] at hform
   cases p with
   | false =>
     by_cases hf : g1 = true ∧ h0 = true
     · obtain ⟨rfl, rfl⟩ := hf
       have HF := hid (zco (l := s.data.toList) (by rw [hform]; rfl))
       have hg : 1 < (x.size : Int) := of_decide_eq_true hg1
       clear hform hy0 hx0 hone hg1 hxs2 hys2
       go_enter Tryz.func166, Tryz.ntmps166
       go_wp2_with fail
       refine (HC.out _).mono ?_
       rintro e w1 ⟨rfl, hb⟩
       go_wp2_with fail
       refine (H1.out _).mono ?_
       rintro e w2 ⟨rfl, rfl⟩
       go_wp2
       go_ret
       exact ⟨zab HF.out.symm, hb⟩
     have HF := hid (zgg (l := s.data.toList) (by rw [hform]; cases g1 <;> cases h0 <;> simp_all))
     clear hform hy0 hx0 hone hxs2 hys2
     cases g1 with
     | false =>
       have hg : ¬ 1 < (x.size : Int) := of_decide_eq_false hg1
       clear hg1 hf
       go_enter Tryz.func166, Tryz.ntmps166
       go_wp2_with fail
       refine (HC.out _).mono ?_
       rintro e w1 ⟨rfl, hb⟩
       go_wp2_with fail
       refine (H1.out _).mono ?_
       rintro e w2 ⟨rfl, rfl⟩
       go_wp2
       all_goals go_ret
       all_goals
         refine ⟨zab ?_, by (repeat' (first | (with_reducible exact Below.refl _ _) | (with_reducible assumption) | (with_reducible refine zbc ?_ _) | (with_reducible refine Below.drew ?_) | (with_reducible refine Below.setCell ?_ ?_ _) | (with_reducible refine Below.alloc ?_ ?_ _) | (with_reducible refine zag ?_ ?_ (by assumption)) | (show _ ≤ _; first | omega | (simp; done) | (simp; omega))))⟩
         obtain ⟨l1, l2, l3⟩ := HL.out
         rw [HF.out, ← l1, ← l2]
         simp_all
         try omega
     | true =>
       have hg : 1 < (x.size : Int) := of_decide_eq_true hg1
       obtain rfl : h0 = false := by cases h0 <;> simp_all
       clear hg1 hf
       go_enter Tryz.func166, Tryz.ntmps166
       go_wp2_with fail
       refine (HC.out _).mono ?_
       rintro e w1 ⟨rfl, hb⟩
       go_wp2_with fail
       refine (H1.out _).mono ?_
       rintro e w2 ⟨rfl, rfl⟩
       go_wp2
       all_goals go_ret
       all_goals
         refine ⟨zab ?_, by (repeat' (first | (with_reducible exact Below.refl _ _) | (with_reducible assumption) | (with_reducible refine zbc ?_ _) | (with_reducible refine Below.drew ?_) | (with_reducible refine Below.setCell ?_ ?_ _) | (with_reducible refine Below.alloc ?_ ?_ _) | (with_reducible refine zag ?_ ?_ (by assumption)) | (show _ ≤ _; first | omega | (simp; done) | (simp; omega))))⟩
         obtain ⟨l1, l2, l3⟩ := HL.out
         rw [HF.out, ← l1, ← l2]
         simp_all
         try omega
   | true =>
     cases q2 with
     | false =>
       have HF := hid (zco (l := s.data.toList) (by rw [hform]; rfl))
       clear hform hx0 hy0
       go_enter Tryz.func166, Tryz.ntmps166
       go_wp2_with fail
       refine (HC.out _).mono ?_
       rintro e w1 ⟨rfl, hb⟩
       go_wp2_with fail
       refine (H1.out _).mono ?_
       rintro e w2 ⟨rfl, rfl⟩
       go_wp2_with fail
       refine (H2.out _).mono ?_
       rintro e w3 ⟨rfl, rfl⟩
       go_wp2
       go_ret
       exact ⟨zab HF.out.symm, hb⟩
     | true =>
       obtain ⟨m, hm⟩ : ∃ m, y.size = m + 1 := ⟨y.size - 1, by have := hy0 rfl; omega⟩
       have hmlt : m < y.size := by rw [hm]; exact Nat.lt_succ_self m
       have hlast := last0 y m hm
       obtain ⟨l0, hl0⟩ : ∃ q, (((y[m]'hmlt).toNat : Int) == 48) = q := ⟨_, rfl⟩
       rw [hl0] at hlast
       rw [show (y.data.toList.getLast? != some 48) = !l0 from by rw [← hlast]; rfl] at hform
       have hms : (y.size : Int) - 1 = (m : Int) := by omega
       have hmi : (m : Int) < (y.size : Int) := by omega
       have hm0 : (0 : Int) ≤ (m : Int) := by omega
       have hmw : IntKind.i64.wrap ((y.size : Int) - 1) = (m : Int) := by rw [hms]; exact IntWalk.i64_in _ (by omega)
       have hmw2 : wrap64 (m : Int) = (m : Int) := by rw [← IntWalk.i64_left]; exact IntWalk.i64_in _ (by omega)
       have HM := hid hm
       clear hlast hx0 hy0 hone hxs2 hys2
       by_cases hf : (g1 = true ∧ h0 = true) ∨ l0 = true
       · have HF := hid (zco (l := s.data.toList) (by rw [hform]; rcases hf with ⟨rfl, rfl⟩ | rfl <;> simp))
         clear hform
         cases g1 with
         | false =>
           have hg : ¬ 1 < (x.size : Int) := of_decide_eq_false hg1
           obtain rfl : l0 = true := by simpa using hf
           clear hg1 hf
           go_enter Tryz.func166, Tryz.ntmps166
           go_wp2_with fail
           refine (HC.out _).mono ?_
           rintro e w1 ⟨rfl, hb⟩
           go_wp2_with fail
           refine (H1.out _).mono ?_
           rintro e w2 ⟨rfl, rfl⟩
           go_wp2_with fail
           refine (H2.out _).mono ?_
           rintro e w3 ⟨rfl, rfl⟩
           go_wp2
           go_ret
           exact ⟨zab HF.out.symm, hb⟩
         | true =>
           have hg : 1 < (x.size : Int) := of_decide_eq_true hg1
           clear hg1
           cases h0 with
           | true =>
             clear hf
             go_enter Tryz.func166, Tryz.ntmps166
             go_wp2_with fail
             refine (HC.out _).mono ?_
             rintro e w1 ⟨rfl, hb⟩
             go_wp2_with fail
             refine (H1.out _).mono ?_
             rintro e w2 ⟨rfl, rfl⟩
             go_wp2_with fail
             refine (H2.out _).mono ?_
             rintro e w3 ⟨rfl, rfl⟩
             go_wp2
             go_ret
             exact ⟨zab HF.out.symm, hb⟩
           | false =>
             obtain rfl : l0 = true := by simpa using hf
             clear hf
             go_enter Tryz.func166, Tryz.ntmps166
             go_wp2_with fail
             refine (HC.out _).mono ?_
             rintro e w1 ⟨rfl, hb⟩
             go_wp2_with fail
             refine (H1.out _).mono ?_
             rintro e w2 ⟨rfl, rfl⟩
             go_wp2_with fail
             refine (H2.out _).mono ?_
             rintro e w3 ⟨rfl, rfl⟩
             go_wp2
             go_ret
             exact ⟨zab HF.out.symm, hb⟩
       obtain rfl : l0 = false := by cases l0 <;> simp_all
       have HF := hid (zgg (l := s.data.toList) (by rw [hform]; cases g1 <;> cases h0 <;> simp_all))
       clear hform
       cases g1 with
       | false =>
         have hg : ¬ 1 < (x.size : Int) := of_decide_eq_false hg1
         clear hg1 hf
         go_enter Tryz.func166, Tryz.ntmps166
         go_wp2_with fail
         refine (HC.out _).mono ?_
         rintro e w1 ⟨rfl, hb⟩
         go_wp2_with fail
         refine (H1.out _).mono ?_
         rintro e w2 ⟨rfl, rfl⟩
         go_wp2_with fail
         refine (H2.out _).mono ?_
         rintro e w3 ⟨rfl, rfl⟩
         go_wp2
         all_goals go_ret
         all_goals
           refine ⟨zab ?_, by (repeat' (first | (with_reducible exact Below.refl _ _) | (with_reducible assumption) | (with_reducible refine zbc ?_ _) | (with_reducible refine Below.drew ?_) | (with_reducible refine Below.setCell ?_ ?_ _) | (with_reducible refine Below.alloc ?_ ?_ _) | (with_reducible refine zag ?_ ?_ (by assumption)) | (show _ ≤ _; first | omega | (simp; done) | (simp; omega))))⟩
           obtain ⟨l1, l2, l3⟩ := HL.out
           rw [HF.out, ← l1, ← l2]
           simp_all
           try omega
       | true =>
         have hg : 1 < (x.size : Int) := of_decide_eq_true hg1
         obtain rfl : h0 = false := by cases h0 <;> simp_all
         clear hg1 hf
         go_enter Tryz.func166, Tryz.ntmps166
         go_wp2_with fail
         refine (HC.out _).mono ?_
         rintro e w1 ⟨rfl, hb⟩
         go_wp2_with fail
         refine (H1.out _).mono ?_
         rintro e w2 ⟨rfl, rfl⟩
         go_wp2_with fail
         refine (H2.out _).mono ?_
         rintro e w3 ⟨rfl, rfl⟩
         go_wp2
         all_goals go_ret
         all_goals
           refine ⟨zab ?_, by (repeat' (first | (with_reducible exact Below.refl _ _) | (with_reducible assumption) | (with_reducible refine zbc ?_ _) | (with_reducible refine Below.drew ?_) | (with_reducible refine Below.setCell ?_ ?_ _) | (with_reducible refine Below.alloc ?_ ?_ _) | (with_reducible refine zag ?_ ?_ (by assumption)) | (show _ ≤ _; first | omega | (simp; done) | (simp; omega))))⟩
           obtain ⟨l1, l2, l3⟩ := HL.out
           rw [HF.out, ← l1, ← l2]
           simp_all
           try omega
theorem zsf {l : List UInt8} (h : chk5 l = 0) : (wholeOf l).length ≤ 4 ∧ (restOf l).length ≤ 3 := ⟨(zdu h).2.1, (zdu h).2.2.2⟩
theorem zm8 (x y : ByteArray) : (x ++ (y ++ ⟨#[48, 48, 48]⟩).extract 0 3).data.toList = x.data.toList ++ (y.data.toList ++ [48, 48, 48]).take 3 := by
 have h := zgb (y ++ ⟨#[48, 48, 48]⟩) 3
 rw [ByteArray.data_append, Array.toList_append, h, ByteArray.data_append, Array.toList_append]
theorem zei (s : ByteArray) (w : World) (hs : s.size ≤ 9223372036854775806) (h : chk5 s.data.toList = 0) :
  Calls Tryz.prog 396 #[.string s] w fun e w' => e = .returned (.int .i64 (val5 s.data.toList)) ∧ Below w.heap.size w w' := by
 have C := fun W => zd7 s W hs
 obtain ⟨h4, h3⟩ := zsf h
 have hA := zq0 h
 obtain ⟨x, hx⟩ : ∃ x, str (wholeOf s.data.toList) = x := ⟨_, rfl⟩
 obtain ⟨y, hy⟩ : ∃ y, str (restOf s.data.toList) = y := ⟨_, rfl⟩
 have hxl : x.data.toList = wholeOf s.data.toList := by rw [← hx, zbj]
 have hyl : y.data.toList = restOf s.data.toList := by rw [← hy, zbj]
 have hxs : x.size ≤ 4 := by rw [← hx, zal]; exact h4
 have hys : y.size ≤ 3 := by rw [← hy, zal]; exact h3
 have hz : (y ++ (⟨#[48, 48, 48]⟩ : ByteArray)).size = y.size + 3 := by simp; rfl
 rw [← hxl, ← hyl, ← zm8] at hA
 rw [hx, hy] at C
 have hXs : (x ++ (y ++ (⟨#[48, 48, 48]⟩ : ByteArray)).extract 0 3).size ≤ 9223372036854775806 := by
  rw [ByteArray.size_append, ByteArray.size_extract, hz]; omega
 have A := fun W => Tryz.strconv_Atoi_ok _ hXs _ hA W
 have HC := hid C
 have HA := hid A
 have z1 : ¬ (9223372036854775807 : Int) < (y.size : Int) + 3 := by omega
 have z2 : (y.size : Int) ≤ 3 := by omega
 have z3 : (x.size : Int) ≤ 4 := by omega
 have z4 : (3 : Int) ≤ ((y ++ (⟨#[48, 48, 48]⟩ : ByteArray)).size : Int) := by rw [hz]; omega
 clear C A hA hx hy hxl hyl h hs h4 h3 hXs hxs hys hz
 go_enter Tryz.func396, Tryz.ntmps396
 go_wp2_with fail
 refine (HC.out _).mono ?_
 rintro e w1 ⟨rfl, hb⟩
 go_wp2_with fail
 refine (HA.out _).mono ?_
 rintro e w2 ⟨rfl, hb2⟩
 go_wp2
 go_ret
 refine ⟨rfl, ?_⟩
 rcases hb2 with rfl | ⟨t, rfl⟩
 · exact hb
 exact zay hb (Lib.bytesWorld_below _ _ _)
theorem zfq (s : ByteArray) (k : Nat) (h : k < s.size) : dval (s.data.toList.take (k + 1)) = 10 * dval (s.data.toList.take k) + (s[k].toNat - 48) := by
 rw [zc2 s k h, zfm]
theorem zlk {s : ByteArray} (h : s.data.toList.all isDig = true) (k : Nat) (hk : k < s.size) : 48 ≤ s[k].toNat ∧ s[k].toNat ≤ 57 := by
 rw [List.all_eq_true] at h
 exact zex (h _ (List.getElem_mem (l := s.data.toList) (by simpa using hk)))
theorem zv8 {s : ByteArray} (h : s.data.toList.all isDig = true) (k m : Nat) (hk : k ≤ m) : dval (s.data.toList.take k) < 10 ^ m := by
 have a := zd5 _ (zcq _ k h)
 have b : (s.data.toList.take k).length ≤ m := Nat.le_trans (List.length_take_le _ _) hk
 exact Nat.lt_of_lt_of_le a (Nat.pow_le_pow_right (by decide) b)
def padR (y : ByteArray) (k : Nat) : List UInt8 := (y.data.toList ++ [48, 48, 48]).take k
theorem zu5 (y : ByteArray) (k : Nat) (h : k < y.size) (l : List UInt8) : dval (l ++ padR y (k + 1)) = 10 * dval (l ++ padR y k) + (y[k].toNat - 48) := by
 have hl : k < y.data.toList.length := by simpa using h
 unfold padR
 rw [List.take_append_of_le_length (by omega), List.take_append_of_le_length (by omega), zc2 y k h, ← List.append_assoc, zfm]
theorem zmp : ∀ (i : Nat) (hi : i < ([48, 48, 48] : List UInt8).length), ([48, 48, 48] : List UInt8)[i] = 48
 | 0, _ => rfl
 | 1, _ => rfl
 | 2, _ => rfl
theorem zot (y : ByteArray) (k : Nat) (h : y.size ≤ k) (hk : k < 3) (l : List UInt8) : dval (l ++ padR y (k + 1)) = 10 * dval (l ++ padR y k) := by
 have hl : y.data.toList.length = y.size := by simp
 have h1 : k < (y.data.toList ++ [48, 48, 48]).length := by rw [List.length_append, hl]; simp; omega
 have h2 : (y.data.toList ++ [48, 48, 48])[k] = 48 := by
  rw [List.getElem_append_right (by omega)]
  exact zmp _ _
 unfold padR
 rw [List.take_succ_eq_append_getElem h1, h2, ← List.append_assoc, zfm]
 rfl
theorem zmr {x y : ByteArray} (h : x.data.toList.all isDig = true) (h2 : y.data.toList.all isDig = true) (hx : x.size ≤ 4) (k : Nat) (hk : k ≤ 3) : dval (x.data.toList ++ padR y k) < 10000000 := by
 have hl : x.data.toList.length = x.size := by simp
 have ha : (x.data.toList ++ padR y k).all isDig = true := by
  rw [List.all_append, h]
  exact zcq _ _ (by rw [List.all_append, h2]; rfl)
 have a := zd5 _ ha
 have b : (x.data.toList ++ padR y k).length ≤ 7 := by
  rw [List.length_append, hl]
  have := List.length_take_le k (y.data.toList ++ [48, 48, 48])
  unfold padR
  omega
 exact Nat.lt_of_lt_of_le a (Nat.pow_le_pow_right (by decide) b)
theorem zjj (b : UInt8) (h : 48 ≤ b.toNat) : IntKind.u8.wrap ((b.toNat : Int) - 48) = ((b.toNat - 48 : Nat) : Int) := by
 have := b.toNat_lt
 rw [IntWalk.u8_in _ (by omega)]
 omega
theorem zic (s : ByteArray) (w : World) (hs : s.size ≤ 9223372036854775806) (h : chk5 s.data.toList = 0) :
  Calls Tryz.prog 265 #[.string s] w fun e w' => e = .returned (.int .i64 (val5 s.data.toList)) ∧ Below w.heap.size w w' := by
 have C := fun W => zi5 s W (by omega)
 obtain ⟨hd, h4, hd2, h3⟩ := zdu h
 have hda : (wholeOf s.data.toList).all isDig = true := by
  unfold digs at hd
  rw [Bool.and_eq_true] at hd
  exact hd.1
 obtain ⟨x, hx⟩ : ∃ x, str (wholeOf s.data.toList) = x := ⟨_, rfl⟩
 obtain ⟨y, hy⟩ : ∃ y, str (restOf s.data.toList) = y := ⟨_, rfl⟩
 have hxl : x.data.toList = wholeOf s.data.toList := by rw [← hx, zbj]
 have hyl : y.data.toList = restOf s.data.toList := by rw [← hy, zbj]
 have hxs : x.size ≤ 4 := by rw [← hx, zal]; exact h4
 have hys : y.size ≤ 3 := by rw [← hy, zal]; exact h3
 have hval : val5 s.data.toList = dval (x.data.toList ++ padR y 3) := by
  unfold val5 padR
  rw [hxl, hyl]
 rw [← hxl] at hda
 rw [← hyl] at hd2
 rw [hx, hy] at C
 rw [hval]
 have HC := hid C
 have HX := hid hda
 have HY := hid hd2
 clear C hx hy hxl hyl hval hda hd2 hd h3 h4 h hs
 go_enter Tryz.func265, Tryz.ntmps265
 go_wp2_with fail
 refine (HC.out _).mono ?_
 rintro e w1 ⟨rfl, hb⟩
 have HB := hid hb
 clear hb HC
 go_wp2
 go_loop [6, 7] (fun n i => ∃ k : Nat, k ≤ x.size ∧ i = .int .i64 k ∧ n = .int .i64 (dval (x.data.toList.take k))) (fun _ i => x.size - (intOf i).toNat)
 case atStart => exact ⟨0, Nat.zero_le _, rfl, rfl⟩
 case round =>
  obtain ⟨k, hk, rfl, rfl⟩ := hrel
  by_cases hlt : k < x.size
  · have hb := zlk HX.out k hlt
    have hn := zv8 HX.out k 4 (by omega)
    have HS := hid (zfq x k hlt)
    have hu := zjj x[k] hb.1
    obtain ⟨n, hnn⟩ : ∃ n, dval (x.data.toList.take k) = n := ⟨_, rfl⟩
    rw [hnn] at hn HS ⊢
    obtain ⟨d, hdd⟩ : ∃ d, x[k].toNat - 48 = d := ⟨_, rfl⟩
    rw [hdd] at hu HS
    have hd9 : d ≤ 9 := by omega
    have hn4 : n < 10000 := by simpa using hn
    clear hnn hdd hb hn
    go_wp2
    go_round
    case rel => exact ⟨k + 1, by omega, by go_num, by rw [HS.out]; go_num⟩
    case measure => simp [intOf]; omega
  obtain rfl : k = x.size := by omega
  have hfull : x.data.toList.take x.size = x.data.toList := List.take_of_length_le (by simp)
  have HF := hid hfull
  clear hfull
  go_wp2
  go_loop [6, 8] (fun n i => ∃ k : Nat, k ≤ 3 ∧ i = .int .i64 k ∧ n = .int .i64 (dval (x.data.toList ++ padR y k))) (fun _ i => 3 - (intOf i).toNat)
  case atStart => exact ⟨0, by omega, rfl, by rw [HF.out]; simp [padR]⟩
  case round =>
    obtain ⟨k, hk, rfl, rfl⟩ := hrel
    by_cases hlt : k < 3
    · have hn := zmr HX.out HY.out hxs k (by omega)
      obtain ⟨n, hnn⟩ : ∃ n, dval (x.data.toList ++ padR y k) = n := ⟨_, rfl⟩
      by_cases hin : k < y.size
      · have hb := zlk HY.out k hin
        have HS := hid (zu5 y k hin x.data.toList)
        have hu := zjj y[k] hb.1
        rw [hnn] at hn HS ⊢
        obtain ⟨d, hdd⟩ : ∃ d, y[k].toNat - 48 = d := ⟨_, rfl⟩
        rw [hdd] at hu HS
        have hd9 : d ≤ 9 := by omega
        clear hnn hdd hb
        go_wp2
        go_round
        case rel => exact ⟨k + 1, by omega, by go_num, by rw [HS.out]; go_num⟩
        case measure => simp [intOf]; omega
      have HS := hid (zot y k (by omega) hlt x.data.toList)
      rw [hnn] at hn HS ⊢
      clear hnn
      go_wp2
      go_round
      case rel => exact ⟨k + 1, by omega, by go_num, by rw [HS.out]; go_num⟩
      case measure => simp [intOf]; omega
    obtain rfl : k = 3 := by omega
    go_wp2
    go_ret
    exact ⟨rfl, HB.out⟩
theorem zlr (n : Int) (s : ByteArray) (w : World) (hs : s.size ≤ 9223372036854775806) (h : Hid (chk5 s.data.toList = n)) : Calls Tryz.prog 153 #[.string s] w fun e w' => e = .returned (.int .i64 n) ∧ Below w.heap.size w w' := by
 have := zcs s w hs
 rw [h.out] at this
 exact this
theorem zmm (s : ByteArray) (w : World) (hs : s.size ≤ 9223372036854775806) :
   Calls Tryz.prog 384 #[.string s] w fun e w' => e = .returned (.tuple #[.int .i64 (thou5 s.data.toList).1, .int .i64 (thou5 s.data.toList).2]) ∧ Below w.heap.size w w' := by
 obtain ⟨n, hn⟩ : ∃ n, chk5 s.data.toList = n := ⟨_, rfl⟩
 have HS := hid hs
 clear hs
 by_cases h0 : n = 0
 · subst h0
   have HN := hid hn
   rw [thou5, if_pos hn]
   clear hn
   go_enter Tryz.func384, Tryz.ntmps384
   go_wp2_with fail
   refine (zlr 0 s _ HS.out HN).mono ?_
   rintro e w1 ⟨rfl, hb⟩
   go_wp2_with fail
   refine (zei s _ HS.out HN.out).mono ?_
   rintro e w2 ⟨rfl, hb2⟩
   go_wp2
   go_ret2
   exact ⟨rfl, zay hb hb2⟩
 have HN := hid hn
 have e9 : (n != 0) = true := by simpa using h0
 rw [thou5, if_neg (by rw [hn]; exact h0), hn]
 clear hn h0
 go_enter Tryz.func384, Tryz.ntmps384
 go_wp2_with fail
 refine (zlr n s _ HS.out HN).mono ?_
 rintro e w1 ⟨rfl, hb⟩
 go_wp2
 go_ret2
 exact ⟨rfl, hb⟩
def vals5 (a b : List UInt8) : Int × Int × Int :=
 if chk5 a = 0 then (if chk5 b = 0 then (val5 a, val5 b, 0) else (0, 0, chk5 b)) else (0, 0, chk5 a)
theorem zc7 (x n : Int) (s : ByteArray) (w : World) (hs : s.size ≤ 9223372036854775806) (h : Hid (thou5 s.data.toList = (x, n))) :
  Calls Tryz.prog 384 #[.string s] w fun e w' => e = .returned (.tuple #[.int .i64 x, .int .i64 n]) ∧ Below w.heap.size w w' := by
 have := zmm s w hs
 rw [h.out] at this
 exact this
theorem zit {l : List UInt8} {n : Int} (h : chk5 l = n) (hn : n ≠ 0) : thou5 l = (0, n) := by rw [thou5, if_neg (by rw [h]; exact hn), h]
theorem zhv {l : List UInt8} (h : chk5 l = 0) : thou5 l = ((val5 l : Int), 0) := by rw [thou5, if_pos h]
theorem zvs (a b : ByteArray) (w : World) (ha : a.size ≤ 9223372036854775806) (hb : b.size ≤ 9223372036854775806) :
   Calls Tryz.prog 372 #[.string a, .string b] w fun e w' => e = .returned (.tuple #[.int .i64 (vals5 a.data.toList b.data.toList).1, .int .i64 (vals5 a.data.toList b.data.toList).2.1, .int .i64 (vals5 a.data.toList b.data.toList).2.2]) ∧ Below w.heap.size w w' := by
 obtain ⟨n, hn⟩ : ∃ n, chk5 a.data.toList = n := ⟨_, rfl⟩
 obtain ⟨m, hm⟩ : ∃ m, chk5 b.data.toList = m := ⟨_, rfl⟩
 have HA := hid ha
 have HB := hid hb
 clear ha hb
 by_cases h0 : n = 0
 · subst h0
   have T1 := hid (zhv hn)
   by_cases m0 : m = 0
   · subst m0
     have T2 := hid (zhv hm)
     rw [vals5, if_pos hn, if_pos hm]
     clear hn hm
     obtain ⟨x, hx⟩ : ∃ x : Int, (val5 a.data.toList : Int) = x := ⟨_, rfl⟩
     obtain ⟨y, hy⟩ : ∃ y : Int, (val5 b.data.toList : Int) = y := ⟨_, rfl⟩
     rw [hx] at T1 ⊢
     rw [hy] at T2 ⊢
     clear hx hy
     go_enter Tryz.func372, Tryz.ntmps372
     go_wp2_with fail
     refine (zc7 x 0 a _ HA.out T1).mono ?_
     rintro e w1 ⟨rfl, hb1⟩
     go_wp2_with fail
     refine (zc7 y 0 b _ HB.out T2).mono ?_
     rintro e w2 ⟨rfl, hb2⟩
     go_wp2
     go_ret3
     exact ⟨rfl, zay hb1 hb2⟩
   have T2 := hid (zit hm m0)
   have e9 : (m != 0) = true := by simpa using m0
   rw [vals5, if_pos hn, if_neg (by rw [hm]; exact m0), hm]
   clear hn hm m0
   obtain ⟨x, hx⟩ : ∃ x : Int, (val5 a.data.toList : Int) = x := ⟨_, rfl⟩
   rw [hx] at T1
   clear hx
   go_enter Tryz.func372, Tryz.ntmps372
   go_wp2_with fail
   refine (zc7 x 0 a _ HA.out T1).mono ?_
   rintro e w1 ⟨rfl, hb1⟩
   go_wp2_with fail
   refine (zc7 0 m b _ HB.out T2).mono ?_
   rintro e w2 ⟨rfl, hb2⟩
   go_wp2
   go_ret3
   exact ⟨rfl, zay hb1 hb2⟩
 have T1 := hid (zit hn h0)
 have e9 : (n != 0) = true := by simpa using h0
 rw [vals5, if_neg (by rw [hn]; exact h0), hn]
 clear hn hm h0
 go_enter Tryz.func372, Tryz.ntmps372
 go_wp2_with fail
 refine (zc7 0 n a _ HA.out T1).mono ?_
 rintro e w1 ⟨rfl, hb1⟩
 go_wp2
 go_ret3
 exact ⟨rfl, hb1⟩
theorem zq1 (x y n : Int) (a b : ByteArray) (w : World) (ha : a.size ≤ 9223372036854775806) (hb : b.size ≤ 9223372036854775806) (h : Hid (vals5 a.data.toList b.data.toList = (x, y, n))) :
  Calls Tryz.prog 372 #[.string a, .string b] w fun e w' => e = .returned (.tuple #[.int .i64 x, .int .i64 y, .int .i64 n]) ∧ Below w.heap.size w w' := by
 have := zvs a b w ha hb
 rw [h.out] at this
 exact this
theorem zty {a b : List UInt8} (h : chk5 a = 0) (h2 : chk5 b = 0) : cmp5 a b = (ord5 (val5 a) (val5 b), 0) := by rw [cmp5, if_pos h, if_pos h2]
theorem zor (a b : List UInt8) : cmp5 a b = (ord5 (vals5 a b).1 (vals5 a b).2.1, (vals5 a b).2.2) := by
 unfold cmp5 vals5
 repeat' split
 all_goals first | rfl | simp [ord5]
theorem zpr (a b : ByteArray) (w : World) (ha : a.size ≤ 9223372036854775806) (hb : b.size ≤ 9223372036854775806) :
   Calls Tryz.prog 350 #[.string a, .string b] w fun e w' => e = .returned (.tuple #[.int .i64 (cmp5 a.data.toList b.data.toList).1, .int .i64 (cmp5 a.data.toList b.data.toList).2]) ∧ Below w.heap.size w w' := by
 rw [zor]
 obtain ⟨x, y, n, hv⟩ : ∃ x y n, vals5 a.data.toList b.data.toList = (x, y, n) := ⟨_, _, _, rfl⟩
 have C := hid (fun W => zq1 x y n a b W ha hb hv)
 rw [hv]
 clear hv ha hb
 by_cases h1 : x < y
 · have e1 : ord5 x y = -1 := by rw [ord5, if_pos h1]
   simp only [e1]
   go_enter Tryz.func350, Tryz.ntmps350
   go_wp2_with fail
   refine (C.out _).mono ?_
   rintro e w1 ⟨rfl, hb1⟩
   go_wp2
   go_ret2
   exact ⟨rfl, hb1⟩
 by_cases h2 : y < x
 · have e1 : ord5 x y = 1 := by rw [ord5, if_neg h1, if_pos h2]
   simp only [e1]
   go_enter Tryz.func350, Tryz.ntmps350
   go_wp2_with fail
   refine (C.out _).mono ?_
   rintro e w1 ⟨rfl, hb1⟩
   go_wp2
   go_ret2
   exact ⟨rfl, hb1⟩
 have e1 : ord5 x y = 0 := by rw [ord5, if_neg h1, if_neg h2]
 simp only [e1]
 go_enter Tryz.func350, Tryz.ntmps350
 go_wp2_with fail
 refine (C.out _).mono ?_
 rintro e w1 ⟨rfl, hb1⟩
 go_wp2
 go_ret2
 exact ⟨rfl, hb1⟩
theorem zsd (a b : ByteArray) (w : World) (ha : a.size ≤ 9223372036854775806) (hb : b.size ≤ 9223372036854775806) (h1 : chk5 a.data.toList = 0) (h2 : chk5 b.data.toList = 0) :
   Calls Tryz.prog 183 #[.string a, .string b] w fun e w' => e = .returned (.int .i64 (ord5 (val5 a.data.toList) (val5 b.data.toList))) ∧ Below w.heap.size w w' := by
 have C1 := hid (fun W => zic a W ha h1)
 have C2 := hid (fun W => zic b W hb h2)
 obtain ⟨x, hx⟩ : ∃ x : Int, (val5 a.data.toList : Int) = x := ⟨_, rfl⟩
 obtain ⟨y, hy⟩ : ∃ y : Int, (val5 b.data.toList : Int) = y := ⟨_, rfl⟩
 rw [hx] at C1 ⊢
 rw [hy] at C2 ⊢
 clear ha hb h1 h2 hx hy
 by_cases h1 : x < y
 · have e1 : ord5 x y = -1 := by rw [ord5, if_pos h1]
   rw [e1]
   go_enter Tryz.func183, Tryz.ntmps183
   go_wp2_with fail
   refine (C1.out _).mono ?_
   rintro e w1 ⟨rfl, hb1⟩
   go_wp2_with fail
   refine (C2.out _).mono ?_
   rintro e w2 ⟨rfl, hb2⟩
   go_wp2
   go_ret
   exact ⟨rfl, zay hb1 hb2⟩
 by_cases h2 : y < x
 · have e1 : ord5 x y = 1 := by rw [ord5, if_neg h1, if_pos h2]
   rw [e1]
   go_enter Tryz.func183, Tryz.ntmps183
   go_wp2_with fail
   refine (C1.out _).mono ?_
   rintro e w1 ⟨rfl, hb1⟩
   go_wp2_with fail
   refine (C2.out _).mono ?_
   rintro e w2 ⟨rfl, hb2⟩
   go_wp2
   go_ret
   exact ⟨rfl, zay hb1 hb2⟩
 have e1 : ord5 x y = 0 := by rw [ord5, if_neg h1, if_neg h2]
 rw [e1]
 go_enter Tryz.func183, Tryz.ntmps183
 go_wp2_with fail
 refine (C1.out _).mono ?_
 rintro e w1 ⟨rfl, hb1⟩
 go_wp2_with fail
 refine (C2.out _).mono ?_
 rintro e w2 ⟨rfl, hb2⟩
 go_wp2
 go_ret
 exact ⟨rfl, zay hb1 hb2⟩
theorem zrk (a b : ByteArray) (w : World) (ha : a.size ≤ 9223372036854775806) (hb : b.size ≤ 9223372036854775806) (h1 : chk5 a.data.toList = 0) (h2 : chk5 b.data.toList = 0) :
  Calls Tryz.prog 316 #[.string a, .string b] w fun e w' => e = .returned (.int .i64 (ord5 (val5 a.data.toList) (val5 b.data.toList))) ∧ Below w.heap.size w w' := by
 have C := zpr a b w ha hb
 rw [zty h1 h2] at C
 have HC := hid C
 clear C
 go_enter Tryz.func316, Tryz.ntmps316
 go_wp2_with fail
 refine HC.out.mono ?_
 rintro e w1 ⟨rfl, hb1⟩
 go_wp2
 go_ret
 exact ⟨rfl, hb1⟩
theorem zi7 (x y : Nat) : decide (0 ≤ ord5 (x : Int) (y : Int)) = decide (y ≤ x) := by
 unfold ord5
 split
 · simp; omega
 split
 · simp; omega
 simp; omega
theorem zls (n : Int) (w : World) : Calls Tryz.prog 297 #[.int .i64 n] w fun e w' => e = .returned (.bool (levB n)) ∧ w = w' := by
 by_cases h1 : 0 ≤ n
 · by_cases h2 : n ≤ 65535
   · have hr : levB n = true := by simp [levB, h1, h2]
     rw [hr]
     clear hr
     go_enter Tryz.func297, Tryz.ntmps297
     go_wp2
     go_ret
     exact ⟨rfl, rfl⟩
   have hr : levB n = false := by simp [levB, h2]
   rw [hr]
   clear hr
   go_enter Tryz.func297, Tryz.ntmps297
   go_wp2
   go_ret
   exact ⟨rfl, rfl⟩
 have hr : levB n = false := by simp [levB, h1]
 rw [hr]
 clear hr
 go_enter Tryz.func297, Tryz.ntmps297
 go_wp2
 go_ret
 exact ⟨rfl, rfl⟩
theorem zeu {p : List Pt} {d : Pt} (h : (levB d.1 && levB d.2) = false) : ptE p d = 2 := by rw [ptE, if_pos h]
theorem zi8 {d : Pt} (h : (levB d.1 && levB d.2) = true) : ptE [] d = 0 := by rw [ptE, if_neg (by simp [h])]; rfl
theorem ze4 {l : List Pt} {j : Nat} {q d : Pt} (hq : l[j]? = some q) (h : (levB d.1 && levB d.2) = true) : ptE (l.take (j + 1)) d = if d.1 ≤ q.1 then 9 else 0 := by rw [ptE, if_neg (by simp [h]), zbs hq]
theorem zky (v : Value) (l : List Pt) (w : World) (hv : ListAt 2 ptA w v l) :
   Calls Tryz.prog 266 #[v] w fun e w' => e = .returned (.int .i64 (curveE l)) ∧ Below w.heap.size w w' := by
 obtain ⟨a, cap, rfl⟩ := hv.shape
 have hml := hv.few
 by_cases h2 : l.length < 2
 · have h3 : (l.length : Int) < 2 := by omega
   rw [curveE, if_pos h2]
   clear hv
   go_enter Tryz.func266, Tryz.ntmps266
   go_wp2
   go_ret
   exact ⟨rfl, bel⟩
 have h3 : ¬ (l.length : Int) < 2 := by omega
 by_cases h4 : 16 < l.length
 · have h5 : (16 : Int) < (l.length : Int) := by omega
   rw [curveE, if_neg h2, if_pos h4]
   clear hv
   go_enter Tryz.func266, Tryz.ntmps266
   go_wp2
   go_ret
   exact ⟨rfl, bel⟩
 have h5 : ¬ (16 : Int) < (l.length : Int) := by omega
 have hP : curveE l = if allB ptE l ≠ 0 then allB ptE l else if (l.head?.map (·.1)) ≠ some 0 ∨ (l.getLast?.map (·.1)) ≠ some 65535 then 14 else 0 := by rw [curveE, if_neg h2, if_neg h4]
 have HP := hid hP
 have HV := hid hv
 clear hP hv h2 h4
 go_enter Tryz.func266, Tryz.ntmps266
 go_wp2
 go_loopw [3, 4, 15] (fun _ _ i wr => ∃ k : Nat, i = .int .i64 k ∧ Hid (LoopB ptE l k ∧ Below w.heap.size w wr)) (fun _ _ i _ => l.length - (intOf i).toNat)
 case atStart => exact ⟨0, rfl, hid ⟨zam _ _, Below.refl _ _⟩⟩
 case round =>
   obtain ⟨k, rfl, hh⟩ := hrel
   have hk := hh.out.1.2.1
   have hbs := hh.out.2.size
   by_cases hlt : k < l.length
   · have hlt3 : (k : Int) < (l.length : Int) := by omega
     obtain ⟨d, hd⟩ : ∃ d, l[k]? = some d := ⟨_, List.getElem?_eq_getElem hlt⟩
     obtain ⟨g, off, cap', he, hg, hc⟩ := HV.out.at_ (by decide) hd
     cases he
     have HE := hid (fun (W : World) (hb : Below wr.heap.size wr W) => hc W (hh.out.2.trans (hb.mono hbs)))
     have e0 : wr.cell? ⟨g, off + k * 2, none⟩ = some (.int .i64 d.1) := HE.out wr (Below.refl _ _) 0 (by decide)
     have e1 : wr.cell? ⟨g, off + k * 2 + 1, none⟩ = some (.int .i64 d.2) := HE.out wr (Below.refl _ _) 1 (by decide)
     have hgr : g < wr.heap.size := by omega
     have C1 := fun W => zls d.1 W
     have C2 := fun W => zls d.2 W
     have HD := hid hd
     clear hd hc hk
     by_cases p1 : levB d.1 = true
     · rw [p1] at C1
       by_cases p2 : levB d.2 = true
       · rw [p2] at C2
         have H1 := hid C1
         have H2 := hid C2
         have hlv : (levB d.1 && levB d.2) = true := by rw [p1, p2]; rfl
         have HL := hid hlv
         clear C1 C2 p1 p2 hlv
         by_cases hkz : k = 0
         · have hgo := hid (zah hh.out.1 HD.out (by subst hkz; exact zi8 HL.out))
           have hkz2 : ¬ (0 : Int) < (k : Int) := by omega
           have hkz3 : decide (0 < k) = false := by simp; omega
           have hkz4 : decide ((0 : Int) < (k : Int)) = false := by simp; omega
           have hkz5 : ¬ 0 < k := by omega
           clear hkz
           go_wp2_with fail
           refine (H1.out _).mono ?_
           rintro e w1 ⟨rfl, rfl⟩
           go_wp2_with fail
           refine (H2.out _).mono ?_
           rintro e w1 ⟨rfl, rfl⟩
           go_wp2
           go_quiet (fail)
           go_wp2
           go_roundw
           case rel => exact ⟨k + 1, by go_num, hid ⟨hgo.out, by have := hh.out.2; exact bel⟩⟩
           case measure => simp [intOf]; omega
         obtain ⟨j, hj⟩ : ∃ j, k = j + 1 := ⟨k - 1, by omega⟩
         obtain ⟨q, hq⟩ : ∃ q, l[j]? = some q := ⟨_, List.getElem?_eq_getElem (by omega)⟩
         obtain ⟨g2, off2, cap2, he2, -, hc2⟩ := HV.out.at_ (by decide) hq
         cases he2
         have f0 : wr.cell? ⟨g, off + j * 2, none⟩ = some (.int .i64 q.1) := hc2 wr hh.out.2 0 (by decide)
         have hkz2 : (0 : Int) < (k : Int) := by omega
         have hkz5 : 0 < k := by omega
         have hk1 : (k : Int) - 1 = (j : Int) := by omega
         have hk2 : IntKind.i64.wrap ((k : Int) - 1) = (j : Int) := by rw [hk1]; exact IntWalk.i64_in _ (by omega)
         have hk3 : IntKind.i64.wrap (j : Int) = (j : Int) := IntWalk.i64_in _ (by omega)
         have hk5 : (0 : Int) ≤ (j : Int) := by omega
         have hk6 : (j : Int) < (l.length : Int) := by omega
         have hst := hid (fun (h : d.1 ≤ q.1) => zad hh.out.1 HD.out (by subst hj; rw [ze4 hq HL.out, if_pos h]) (by decide : (9 : Int) ≠ 0))
         have hgo := hid (fun (h : ¬ d.1 ≤ q.1) => zah hh.out.1 HD.out (by subst hj; rw [ze4 hq HL.out, if_neg h]))
         clear hj hq hc2 hkz
         by_cases ho : d.1 ≤ q.1
         · have hs2 := hid (hst.out ho)
           go_wp2_with fail
           refine (H1.out _).mono ?_
           rintro e w1 ⟨rfl, rfl⟩
           go_wp2_with fail
           refine (H2.out _).mono ?_
           rintro e w1 ⟨rfl, rfl⟩
           go_wp2
           go_quiet (fail)
           go_wp2
           go_ret
           exact ⟨zab (by rw [HP.out, if_pos (by rw [hs2.out]; decide), hs2.out]), by have := hh.out.2; exact bel⟩
         have hg2 := hid (hgo.out ho)
         go_wp2_with fail
         refine (H1.out _).mono ?_
         rintro e w1 ⟨rfl, rfl⟩
         go_wp2_with fail
         refine (H2.out _).mono ?_
         rintro e w1 ⟨rfl, rfl⟩
         go_wp2
         go_quiet (fail)
         go_wp2
         go_roundw
         case rel => exact ⟨k + 1, by go_num, hid ⟨hg2.out, by have := hh.out.2; exact bel⟩⟩
         case measure => simp [intOf]; omega
       have p3 : levB d.2 = false := by simpa using p2
       rw [p3] at C2
       have H1 := hid C1
       have H2 := hid C2
       have hst := hid (zad hh.out.1 HD.out (zeu (by rw [p3, Bool.and_false])) (by decide))
       clear C1 C2 p1 p2 p3
       go_wp2_with fail
       refine (H1.out _).mono ?_
       rintro e w1 ⟨rfl, rfl⟩
       go_wp2_with fail
       refine (H2.out _).mono ?_
       rintro e w1 ⟨rfl, rfl⟩
       go_wp2
       go_ret
       exact ⟨zab (by rw [HP.out, if_pos (by rw [hst.out]; decide), hst.out]), by have := hh.out.2; exact bel⟩
     have p3 : levB d.1 = false := by simpa using p1
     rw [p3] at C1
     have H1 := hid C1
     have hst := hid (zad hh.out.1 HD.out (zeu (by rw [p3]; rfl)) (by decide))
     clear C1 C2 p1 p3
     go_wp2_with fail
     refine (H1.out _).mono ?_
     rintro e w1 ⟨rfl, rfl⟩
     go_wp2
     go_ret
     exact ⟨zab (by rw [HP.out, if_pos (by rw [hst.out]; decide), hst.out]), by have := hh.out.2; exact bel⟩
   obtain rfl : k = l.length := by omega
   have hen := hid (zan hh.out.1)
   obtain ⟨d0, hd0⟩ : ∃ d, l[0]? = some d := ⟨_, List.getElem?_eq_getElem (by omega)⟩
   obtain ⟨dn, hdn⟩ : ∃ d, l[l.length - 1]? = some d := ⟨_, List.getElem?_eq_getElem (by omega)⟩
   obtain ⟨g, off, cap', he, hg, hc⟩ := HV.out.at_ (by decide) hd0
   cases he
   obtain ⟨g2, off2, cap2, he2, -, hc2⟩ := HV.out.at_ (by decide) hdn
   cases he2
   have e0 : wr.cell? ⟨g, off + 0 * 2, none⟩ = some (.int .i64 d0.1) := hc wr hh.out.2 0 (by decide)
   simp only [Nat.zero_mul, Nat.add_zero] at e0
   have hh1 : l.head?.map (·.1) = some d0.1 := by rw [List.head?_eq_getElem?, hd0]; rfl
   have hh2 : l.getLast?.map (·.1) = some dn.1 := by rw [List.getLast?_eq_getElem?, hdn]; rfl
   obtain ⟨n, hn⟩ : ∃ n, l.length - 1 = n := ⟨_, rfl⟩
   rw [hn] at hc2
   have en : wr.cell? ⟨g, off + n * 2, none⟩ = some (.int .i64 dn.1) := hc2 wr hh.out.2 0 (by decide)
   have hn1 : (l.length : Int) - 1 = (n : Int) := by omega
   have hn2 : IntKind.i64.wrap ((l.length : Int) - 1) = (n : Int) := by rw [hn1]; exact IntWalk.i64_in _ (by omega)
   have hn3 : IntKind.i64.wrap (n : Int) = (n : Int) := IntWalk.i64_in _ (by omega)
   have hn5 : (0 : Int) ≤ (n : Int) := by omega
   have hn6 : (n : Int) < (l.length : Int) := by omega
   have hn7 : (0 : Int) < (l.length : Int) := by omega
   have HF := hid (And.intro hh1 hh2)
   clear hh1 hh2 hc hc2 hd0 hdn hn
   by_cases q1 : d0.1 = 0
   · have q1' : (d0.1 == 0) = true := by simp [q1]
     by_cases q2 : dn.1 = 65535
     · have q2' : (dn.1 == 65535) = true := by simp [q2]
       go_wp2
       go_ret
       exact ⟨zab (by rw [HP.out, if_neg (by rw [hen.out]; decide), HF.out.1, HF.out.2, q1, q2]; rfl), hh.out.2⟩
     have q2' : (dn.1 == 65535) = false := by simp [q2]
     go_wp2
     go_ret
     exact ⟨zab (by rw [HP.out, if_neg (by rw [hen.out]; decide), HF.out.1, HF.out.2, if_pos (.inr (by simp [q2]))]), hh.out.2⟩
   have q1' : (d0.1 == 0) = false := by simp [q1]
   go_wp2
   go_ret
   exact ⟨zab (by rw [HP.out, if_neg (by rw [hen.out]; decide), HF.out.1, HF.out.2, if_pos (.inl (by simp [q1]))]), hh.out.2⟩
end Go.Proofs.YtjeigphhepngmaaGreatDoor
