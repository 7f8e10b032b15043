/-
  The reader of ranges: the word thru, a term.
-/
import Derived.Test.YtndkpdiacabjgaaGreatDoorGg
import Derived.Test.YtndkpdiacabjgaaGreatDoorShf
namespace Go.Proofs.YtndkpdiacabjgaaGreatDoor
open Go.RowKit

theorem thru_has (r : List UInt8) : Lib.hasPrefix (116 :: 104 :: 114 :: 117 :: r) [116, 104, 114, 117] = true := by simp [Lib.hasPrefix, List.isPrefixOf]
theorem thru_trim (r : List UInt8) : Lib.trimPrefix (116 :: 104 :: 114 :: 117 :: r) [116, 104, 114, 117] = r := by rw [Lib.trimPrefix, if_pos (thru_has r)]; rfl

theorem cut_is (s t : ByteArray) (n : Nat) (q : Bool) (w : World) (k : Nat) (h1 : Hid (str (Lib.trimPrefix (s.data.toList.drop n) [116, 104, 114, 117]) = t)) (h2 : Hid (Lib.hasPrefix (s.data.toList.drop n) [116, 104, 114, 117] = q)) :
    Calls Tryz.prog 77 #[.string (s.extract n s.size), .string ⟨#[116, 104, 114, 117]⟩] (w.drewN k) fun e w' => e = .returned (.tuple #[.string t, .bool q]) ∧ w.drewN k = w' := by
  refine (Tryz.strings_CutPrefix _ _ _).mono ?_
  rintro e w' ⟨rfl, rfl⟩
  refine ⟨?_, rfl⟩
  have e1 := h1.out
  have e2 := h2.out
  rw [drop_extract]
  rw [← e1, ← e2]
  rfl

set_option maxHeartbeats 4000000 in
set_option maxRecDepth 100000 in
theorem gthru_no (b : Nat) (s : ByteArray) (n : Nat) (w : World) (h : RdAt w b s n) (hn : n ≤ s.size) (hq : Lib.hasPrefix (s.data.toList.drop n) [116, 104, 114, 117] = false) :
    Calls Tryz.prog 60 #[.pointer (some ⟨b, 0, none⟩)] w fun e w' => e = .returned (.bool false) ∧ Below w.heap.size w w' := by
  obtain ⟨r1, r2, r3, r4, r5, r6⟩ := row_facts h
  have c0 := r1 0
  have c1 := r1 1
  have c2 := r1 2
  simp only [List.getElem?_toArray, List.getElem?_cons_zero, List.getElem?_cons_succ] at c0 c1 c2
  obtain ⟨t, ht⟩ : ∃ t, str (Lib.trimPrefix (s.data.toList.drop n) [116, 104, 114, 117]) = t := ⟨_, rfl⟩
  have HC := Lib.hid (fun (W : World) (k : Nat) => cut_is s t n false W k (Lib.hid ht) (Lib.hid hq))
  have hn2 : (n : Int) ≤ (s.size : Int) := by omega
  have hn0 : (0 : Int) ≤ (n : Int) := by omega
  clear h r1 r2 ht hq
  go_enter Tryz.func60, Tryz.ntmps60
  go_wp2_with fail
  go_quiet ((go_at_call 77; exact quiet_left (HC.out _ _)))
  go_wp2
  go_ret
  exact ⟨rfl, by (repeat' (first | (with_reducible exact Below.refl _ _) | (with_reducible assumption) | (with_reducible refine below_run ?_ (by assumption)) | (with_reducible refine below_of_upd ?_ (by assumption) ?_) | (with_reducible refine below_drewN ?_ _) | (with_reducible refine Below.drew ?_) | (with_reducible refine below_seven ?_ ?_) | (with_reducible refine below_six ?_ ?_) | (with_reducible refine below_one ?_ ?_) | (with_reducible refine Below.alloc ?_ ?_ _) | (with_reducible refine below_after ?_ ?_ (by assumption)) | (show _ ≤ _; first | omega | (simp; done) | (simp; omega))))⟩

set_option maxHeartbeats 4000000 in
set_option maxRecDepth 100000 in
theorem gthru_yes (b : Nat) (s : ByteArray) (n : Nat) (r : List UInt8) (w : World) (h : RdAt w b s n) (hs : s.size ≤ 4096) (hd : s.data.toList.drop n = 116 :: 104 :: 114 :: 117 :: 32 :: r) :
    Calls Tryz.prog 60 #[.pointer (some ⟨b, 0, none⟩)] w fun e w' => e = .returned (.bool true) ∧ RdAt w' b s (n + 5 + blanksG r) ∧ Upd b w w' := by
  have H := Lib.hid h
  obtain ⟨r1, r2, r3, r4, r5, r6⟩ := row_facts h
  have c0 := r1 0
  have c1 := r1 1
  have c2 := r1 2
  simp only [List.getElem?_toArray, List.getElem?_cons_zero, List.getElem?_cons_succ] at c0 c1 c2
  have f1 := r2 1
  have hln := drop_len (p := 116 :: 104 :: 114 :: 117 :: 32 :: r) (q := []) (by rw [hd]; simp) (by simp)
  simp only [List.length_cons] at hln
  obtain ⟨t, ht⟩ : ∃ t, str (32 :: r) = t := ⟨_, rfl⟩
  have htl : t.data.toList = 32 :: r := by rw [← ht]; rfl
  have hts : t.size = r.length + 1 := by rw [← ht]; rfl
  have hdl : (s.data.toList.drop n).length = r.length + 5 := by rw [hd]; rfl
  have hsl : s.data.toList.length = s.size := by simp
  rw [List.length_drop, hsl] at hdl
  have HC := Lib.hid (fun (W : World) (k : Nat) => cut_is s t n true W k (Lib.hid (by rw [← ht, hd, thru_trim])) (Lib.hid (by rw [hd, thru_has])))
  have hn2 : (n : Int) ≤ (s.size : Int) := by omega
  have hn0 : (0 : Int) ≤ (n : Int) := by omega
  have hte : t.toList.isEmpty = false := by rw [Lib.toList_data, htl]; rfl
  have ht0 : 0 < t.size := by omega
  obtain ⟨hx, hby, -⟩ := at_byte (s := t) (k := 0) (d := 32) (l := r) (by simpa using htl)
  have hb32 : (t[0].toNat : Int) = 32 := by rw [hby]; rfl
  have ht1 : (0 : Int) < (t.size : Int) := by omega
  have hor : bits BinOp.or .u8 32 32 = 32 := by decide
  have HW1 := Lib.hid (fun W : World => gwithin_is false 32 48 57 W (Lib.hid (by decide)))
  have HW2 := Lib.hid (fun W : World => gwithin_is false 32 97 122 W (Lib.hid (by decide)))
  have hsub : IntKind.i64.wrap ((s.size : Int) - (t.size : Int)) = ((n + 4 : Nat) : Int) := by rw [IntWalk.i64_in _ (by omega)]; omega
  have CB := Lib.hid (fun W (hW : RdAt W b s (n + 4)) => gblanks_any b s (n + 4) W hW hs (by omega))
  have HDR : Hid (s.data.toList.drop (n + 4) = 32 :: r) := Lib.hid (by rw [← List.drop_drop, hd]; rfl)
  clear h r1 r2 ht hd hby htl hts hdl hsl
  go_enter Tryz.func60, Tryz.ntmps60
  go_wp2_with fail
  go_quiet ((go_at_call 77; exact quiet_left (HC.out _ _)))
  go_wp2_with fail
  refine (HW1.out _).mono ?_
  rintro e w' ⟨rfl, rfl⟩
  go_wp2_with fail
  refine (HW2.out _).mono ?_
  rintro e w' ⟨rfl, rfl⟩
  go_wp2_with fail
  refine (CB.out _ ((H.out.drewN _).set (n + 4))).mono ?_
  rintro e w2 ⟨rfl, hrd2, hu2⟩
  go_wp2
  go_ret
  refine ⟨rfl, ?_, by (repeat' (first | (with_reducible exact upd_refl _ _) | (with_reducible assumption) | (with_reducible refine upd_drewN ?_ _) | (with_reducible refine upd_drew ?_) | (with_reducible refine upd_set ?_ _ _) | (with_reducible refine upd_far ?_ ?_ _) | (with_reducible refine upd_alloc ?_ _) | (with_reducible refine upd_below ?_ (by assumption)) | (with_reducible refine upd_upd ?_ (by assumption)) | (show _ ≤ _; first | omega | (simp; done) | (simp; omega))))⟩
  rw [HDR.out, blanksG_cons] at hrd2
  rw [show n + 5 + blanksG r = n + 4 + (blanksG r + 1) from by omega]
  exact hrd2
end Go.Proofs.YtndkpdiacabjgaaGreatDoor
