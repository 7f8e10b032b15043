/-
  The reader of ranges: a channel.
-/
import Derived.Test.YtndkpdiacabjgaaGreatDoorGf
import Derived.Test.YtndkpdiacabjgaaGreatDoorGc
namespace Go.Proofs.YtndkpdiacabjgaaGreatDoor
open Go.RowKit

set_option maxHeartbeats 1000000 in
set_option maxRecDepth 100000 in
theorem gwithin_any (c lo hi : Int) (w : World) :
    Calls Tryz.prog 76 #[.int .u8 c, .int .u8 lo, .int .u8 hi] w fun e w' => e = .returned (.bool (decide (lo ≤ c) && decide (c ≤ hi))) ∧ w = w' := by
  go_enter Tryz.func76, Tryz.ntmps76
  go_wp2
  all_goals go_ret
  all_goals exact ⟨ret_bool (by grind), rfl⟩
theorem gwithin_is (q : Bool) (c lo hi : Int) (w : World) (h : Hid ((decide (lo ≤ c) && decide (c ≤ hi)) = q)) :
    Calls Tryz.prog 76 #[.int .u8 c, .int .u8 lo, .int .u8 hi] w fun e w' => e = .returned (.bool q) ∧ w = w' := by
  have := gwithin_any c lo hi w
  rw [h.out] at this
  exact this

theorem digit_bool {c : Int} (h : 48 ≤ c ∧ c ≤ 57) : (decide ((48 : Int) ≤ c) && decide (c ≤ 57)) = true := by simp; omega
theorem digit_not {c : Int} (h : c < 48 ∨ 57 < c) : (decide ((48 : Int) ≤ c) && decide (c ≤ 57)) = false := by
  rw [Bool.eq_false_iff]; simp; omega

set_option maxHeartbeats 4000000 in
set_option maxRecDepth 100000 in
theorem gchannel_any (b : Nat) (s : ByteArray) (n k : Nat) (rest : List UInt8) (w : World) (h : RdAt w b s n) (hs : s.size ≤ 4096) (hk1 : 1 ≤ k) (hk9 : k ≤ 999)
    (hd : s.data.toList.drop n = Lib.decDigits k ++ rest) (hr : ∀ d l, rest = d :: l → isDig d = false) :
    Calls Tryz.prog 59 #[.pointer (some ⟨b, 0, none⟩)] w fun e w' => e = .returned (.int .i64 k) ∧ RdAt w' b s (n + (Lib.decDigits k).length + blanksG rest) ∧ Upd b w w' := by
  have H := Lib.hid h
  have HD := Lib.hid hd
  have HR := Lib.hid hr
  have hsz : (s.size : Int) ≤ 4096 := by omega
  have hln := drop_len hd (decDigits_ne k)
  have hl1 : 0 < (Lib.decDigits k).length := List.length_pos_iff.2 (decDigits_ne k)
  obtain ⟨r1, r2, r3, r4, r5, r6⟩ := row_facts h
  have c0 := r1 0
  have c1 := r1 1
  have c2 := r1 2
  simp only [List.getElem?_toArray, List.getElem?_cons_zero, List.getElem?_cons_succ] at c0 c1 c2
  have f1 := r2 1
  clear h hd hr r1 r2
  go_enter Tryz.func59, Tryz.ntmps59
  go_wp2
  go_loopw [3, 4] (fun e v wr => ∃ (p q : List UInt8), Hid (Lib.decDigits k = p ++ q) ∧ e = .int .i64 ((n + p.length : Nat) : Int) ∧ v = .int .i64 (dval p : Int) ∧ wr = w) (fun e _ _ => s.size + 1 - (intOf e).toNat)
  case atStart => exact ⟨[], Lib.decDigits k, Lib.hid rfl, rfl, rfl, rfl⟩
  case round =>
    rename World => wr
    obtain ⟨p, q, HP, rfl, rfl, rfl⟩ := hrel
    obtain ⟨m, hm⟩ : ∃ m, n + p.length = m := ⟨_, rfl⟩
    rw [hm]
    have hm0 : (0 : Int) ≤ (m : Int) := by omega
    have hdm : s.data.toList.drop m = q ++ rest := by
      have := HD.out
      rw [HP.out, List.append_assoc] at this
      rw [← hm]
      exact drop_more this
    match q, HP with
    | d :: q', HP =>
      obtain ⟨g1, g2, g3, g4⟩ := dec_step HP.out hk9
      obtain ⟨hms, hby, hdr⟩ := at_byte (l := q' ++ rest) (by simpa using hdm)
      have hg3 : (m : Int) < (s.size : Int) := by omega
      have hdi := isDig_int g1
      obtain ⟨X, hX⟩ : ∃ X, dval p = X := ⟨_, rfl⟩
      obtain ⟨Y, hY⟩ : ∃ Y, dval (p ++ [d]) = Y := ⟨_, rfl⟩
      obtain ⟨D, hD⟩ : ∃ D : Int, (s[m].toNat : Int) = D := ⟨_, rfl⟩
      have hDd : (d.toNat : Int) = D := by rw [← hD, hby]
      rw [hDd] at hdi
      have HW := Lib.hid (digit_bool hdi)
      have w1 : IntKind.u8.wrap (D - 48) = D - 48 := IntWalk.u8_in _ (by omega)
      have w2 : IntKind.i64.wrap (D - 48) = D - 48 := IntWalk.i64_in _ (by omega)
      rw [hX] at g2 g4
      rw [hY] at g2 g3
      have w3 : IntKind.i64.wrap (10 * (X : Int)) = 10 * (X : Int) := IntWalk.i64_in _ (by omega)
      have hY2 : 10 * (X : Int) + (D - 48) = (Y : Int) := by omega
      have w4 : IntKind.i64.wrap (10 * (X : Int) + (D - 48)) = (Y : Int) := by rw [hY2]; exact IntWalk.i64_in _ (by omega)
      have w5 : min (Y : Int) 1000 = (Y : Int) := by omega
      have w6 : IntKind.i64.wrap ((m : Int) + 1) = ((m + 1 : Nat) : Int) := by rw [IntWalk.i64_in _ (by omega)]; rfl
      have HPN : Hid (Lib.decDigits k = (p ++ [d]) ++ q') := Lib.hid (by rw [HP.out]; simp)
      have HYn := Lib.hid hY
      have HMn := Lib.hid hm
      rw [hX]
      clear hdm hdr hby g1 g2 g3 g4 hX hY hm hDd hdi hY2
      go_wp2_with (go_at_call 76; refine (gwithin_is true _ _ _ _ HW).mono ?_; rintro e w' ⟨rfl, rfl⟩)
      go_roundw
      case rel => exact ⟨p ++ [d], q', HPN, by rw [← HMn.out, List.length_append]; first | rfl | (simp; omega), by rw [HYn.out], trivial⟩
      case measure => simp [intOf]; omega
    | [], HP =>
      have hpk : Lib.decDigits k = p := by rw [HP.out, List.append_nil]
      have hv : dval p = k := by rw [← hpk, dval_decDigits]
      have hme : m = n + (Lib.decDigits k).length := by rw [← hm, hpk]
      have hneq : ¬ (m : Int) = (n : Int) := by omega
      have HQ := Lib.hid (show rightG ((k : Int), (k : Int)) = true from rightG_iff.2 (by dsimp only; omega))
      have hdr2 : s.data.toList.drop m = rest := by simpa using hdm
      have hms : m ≤ s.size := by omega
      have HM := Lib.hid hme
      have HDR := Lib.hid hdr2
      have CB := Lib.hid (fun W (hW : RdAt W b s m) => gblanks_any b s m W hW hs hms)
      rw [hv]
      match hrr : rest with
      | [] =>
        have hge := at_end hdr2
        have hge2 : ¬ (m : Int) < (s.size : Int) := by omega
        clear hpk hv hme hdr2 hm hdm HP
        go_wp2_with (first | (go_at_call 54; refine (gright_is true _ _ _ HQ).mono ?_; rintro e w1 ⟨rfl, hb⟩; obtain ⟨hc, hf, hT1, hT2, hT3, hT4, hz⟩ := bfacts (n := wr.heap.size) hb (by first | (simp; done) | (simp; omega) | omega)) | (go_at_call 37; refine (CB.out _ ((H.out.run hb).set m)).mono ?_; rintro e w2 ⟨rfl, hrd2, hu2⟩))
        go_ret
        refine ⟨rfl, ?_, by (repeat' (first | (with_reducible exact upd_refl _ _) | (with_reducible assumption) | (with_reducible refine upd_drewN ?_ _) | (with_reducible refine upd_drew ?_) | (with_reducible refine upd_set ?_ _ _) | (with_reducible refine upd_far ?_ ?_ _) | (with_reducible refine upd_alloc ?_ _) | (with_reducible refine upd_below ?_ (by assumption)) | (with_reducible refine upd_upd ?_ (by assumption)) | (show _ ≤ _; first | omega | (simp; done) | (simp; omega))))⟩
        rw [HDR.out, HM.out, ← hrr] at hrd2
        exact hrd2
      | d :: l =>
        obtain ⟨hms2, hby, hdr3⟩ := at_byte hdr2
        have hge2 : (m : Int) < (s.size : Int) := by omega
        obtain ⟨D, hD⟩ : ∃ D : Int, (s[m].toNat : Int) = D := ⟨_, rfl⟩
        have hdn := isDig_not (HR.out d l rfl)
        rw [← hby, hD] at hdn
        have HW := Lib.hid (digit_not hdn)
        clear hpk hv hme hdr2 hm hdm HP hby hdr3 hdn
        go_wp2_with (first | (go_at_call 76; refine (gwithin_is false _ _ _ _ HW).mono ?_; rintro e w' ⟨rfl, rfl⟩) | (go_at_call 54; refine (gright_is true _ _ _ HQ).mono ?_; rintro e w1 ⟨rfl, hb⟩; obtain ⟨hc, hf, hT1, hT2, hT3, hT4, hz⟩ := bfacts (n := wr.heap.size) hb (by first | (simp; done) | (simp; omega) | omega)) | (go_at_call 37; refine (CB.out _ ((H.out.run hb).set m)).mono ?_; rintro e w2 ⟨rfl, hrd2, hu2⟩))
        go_ret
        refine ⟨rfl, ?_, by (repeat' (first | (with_reducible exact upd_refl _ _) | (with_reducible assumption) | (with_reducible refine upd_drewN ?_ _) | (with_reducible refine upd_drew ?_) | (with_reducible refine upd_set ?_ _ _) | (with_reducible refine upd_far ?_ ?_ _) | (with_reducible refine upd_alloc ?_ _) | (with_reducible refine upd_below ?_ (by assumption)) | (with_reducible refine upd_upd ?_ (by assumption)) | (show _ ≤ _; first | omega | (simp; done) | (simp; omega))))⟩
        rw [HDR.out, HM.out, ← hrr] at hrd2
        exact hrd2
end Go.Proofs.YtndkpdiacabjgaaGreatDoor
