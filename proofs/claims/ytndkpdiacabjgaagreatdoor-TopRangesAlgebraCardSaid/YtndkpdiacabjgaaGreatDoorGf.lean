/-
  The reader of ranges: blanks, a channel.
-/
import Derived.Test.YtndkpdiacabjgaaGreatDoorGt
import Derived.Test.YtndkpdiacabjgaaGreatDoorGd
namespace Go.Proofs.YtndkpdiacabjgaaGreatDoor
open Go.RowKit

/-- The reader of a text stands at a place, without an error. -/
def RdAt (w : World) (b : Nat) (s : ByteArray) (n : Nat) : Prop := RowAt w b 69 #[.string s, .int .i64 n, .int .i64 0]
def placeOf (w : World) (b : Nat) : Nat := match w.cell? ⟨b, 1, none⟩ with
  | some v => (intOf v).toNat
  | none => 0
theorem RdAt.place {w : World} {b : Nat} {s : ByteArray} {n : Nat} (h : RdAt w b s n) : placeOf w b = n := by
  have := (row_facts h).1 1
  unfold placeOf
  rw [this]
  simp [intOf]
theorem RdAt.set {w : World} {b : Nat} {s : ByteArray} {n : Nat} (h : RdAt w b s n) (m : Nat) : RdAt (w.setCell ⟨b, 1, none⟩ (.int .i64 (m : Int))) b s m := RowAt.set h rfl

theorem RdAt.run {w w' : World} {b : Nat} {s : ByteArray} {m : Nat} (h : RdAt w b s m) (hb : Below w.heap.size w w') : RdAt w' b s m := RowAt.run h hb
theorem RdAt.drewN {w : World} {b : Nat} {s : ByteArray} {m : Nat} (h : RdAt w b s m) (n : Nat) : RdAt (w.drewN n) b s m := h

set_option maxHeartbeats 2000000 in
set_option maxRecDepth 100000 in
theorem gblanks_any (b : Nat) (s : ByteArray) (n : Nat) (w : World) (h : RdAt w b s n) (hs : s.size ≤ 4096) (hn : n ≤ s.size) :
    Calls Tryz.prog 37 #[.pointer (some ⟨b, 0, none⟩)] w fun e w' => e = .returned (.tuple #[]) ∧ RdAt w' b s (n + blanksG (s.data.toList.drop n)) ∧ Upd b w w' := by
  have H := Lib.hid h
  have hsz : (s.size : Int) ≤ 4096 := by omega
  clear h
  go_enter Tryz.func37, Tryz.ntmps37
  go_wp2
  go_loopw [] (fun wr => ∃ k : Nat, n + k ≤ s.size ∧ RdAt wr b s (n + k) ∧ Hid (k + blanksG (s.data.toList.drop (n + k)) = blanksG (s.data.toList.drop n)) ∧ Upd b w wr) (fun wr => s.size + 1 - placeOf wr b)
  case atStart => exact ⟨0, hn, H.out, by simp [Hid], upd_refl _ _⟩
  case round =>
    rename World => wr
    obtain ⟨k, hk, hrd, HB, hb0⟩ := hrel
    obtain ⟨r1, r2, r3, r4, r5, r6⟩ := row_facts hrd
    have HR := Lib.hid hrd
    have c0 := r1 0
    have c1 := r1 1
    simp only [List.getElem?_toArray, List.getElem?_cons_zero, List.getElem?_cons_succ] at c0 c1
    have f1 := r2 1
    have hpl := hrd.place
    obtain ⟨m, hm⟩ : ∃ m, n + k = m := ⟨_, rfl⟩
    rw [hm] at c1 HR hk HB hpl
    have hm0 : (0 : Int) ≤ (m : Int) := by omega
    clear r1 r2 hrd
    match hd : s.data.toList.drop m with
    | [] =>
      have hms := at_end hd
      have hg : decide ((m : Int) < (s.size : Int)) = false := by simp; omega
      have hg2 : decide (m < s.size) = false := by simp; omega
      rw [hd] at HB
      clear hd
      go_wp2_with fail
      go_quiet (fail)
      go_wp2
      go_end0
      refine ⟨rfl, ?_, by (repeat' (first | (with_reducible exact upd_refl _ _) | (with_reducible assumption) | (with_reducible refine upd_drewN ?_ _) | (with_reducible refine upd_drew ?_) | (with_reducible refine upd_set ?_ _ _) | (with_reducible refine upd_far ?_ ?_ _) | (with_reducible refine upd_alloc ?_ _) | (with_reducible refine upd_below ?_ (by assumption)) | (with_reducible refine upd_upd ?_ (by assumption)) | (show _ ≤ _; first | omega | (simp; done) | (simp; omega))))⟩
      have := HB.out
      rw [← this, show blanksG [] = 0 from rfl, Nat.add_zero, hm]
      exact HR.out
    | d :: rest =>
      obtain ⟨hms, hby, hdr⟩ := at_byte hd
      have hg : decide ((m : Int) < (s.size : Int)) = true := by simp; omega
      have hg2 : decide (m < s.size) = true := by simp; omega
      have hg3 : (m : Int) < (s.size : Int) := by omega
      rw [hd] at HB
      by_cases h32 : d = 32
      · have HB2 : Hid (k + 1 + blanksG rest = blanksG (s.data.toList.drop n)) := Lib.hid (by have := HB.out; rw [h32, blanksG_cons] at this; omega)
        have hb32 : (s[m].toNat : Int) = 32 := by rw [hby, h32]; rfl
        have hb33 : s[m] = 32 := by rw [hby, h32]
        have HD := Lib.hid hdr
        clear hd hby h32 hdr HB
        go_wp2_with fail
        go_quiet (fail)
        go_wp2
        go_roundw
        case rel => exact ⟨k + 1, by omega, by rw [show n + (k + 1) = m + 1 from by omega]; exact (HR.out.drewN _).set (m + 1), by rw [show n + (k + 1) = m + 1 from by omega, HD.out]; exact HB2, by (repeat' (first | (with_reducible exact upd_refl _ _) | (with_reducible assumption) | (with_reducible refine upd_drewN ?_ _) | (with_reducible refine upd_drew ?_) | (with_reducible refine upd_set ?_ _ _) | (with_reducible refine upd_far ?_ ?_ _) | (with_reducible refine upd_alloc ?_ _) | (with_reducible refine upd_below ?_ (by assumption)) | (with_reducible refine upd_upd ?_ (by assumption)) | (show _ ≤ _; first | omega | (simp; done) | (simp; omega))))⟩
        case measure =>
          have hp2 := RdAt.place ((HR.out.drewN nq).set (m + 1))
          rw [hpl]
          refine Nat.lt_of_le_of_lt (Nat.sub_le_sub_left (Nat.le_of_eq hp2.symm) _) (by omega)
      · have hb32 : ¬ (s[m].toNat : Int) = 32 := fun e => h32 (by rw [← hby]; exact UInt8.toNat_inj.1 (by show s[m].toNat = 32; omega))
        have hb33 : ¬ s[m] = 32 := by rw [hby]; exact h32
        have HZ : Hid (blanksG (d :: rest) = 0) := Lib.hid (blanksG_other rest h32)
        clear hd hby h32 hdr
        go_wp2_with fail
        go_quiet (fail)
        go_wp2
        go_end0
        refine ⟨rfl, ?_, by (repeat' (first | (with_reducible exact upd_refl _ _) | (with_reducible assumption) | (with_reducible refine upd_drewN ?_ _) | (with_reducible refine upd_drew ?_) | (with_reducible refine upd_set ?_ _ _) | (with_reducible refine upd_far ?_ ?_ _) | (with_reducible refine upd_alloc ?_ _) | (with_reducible refine upd_below ?_ (by assumption)) | (with_reducible refine upd_upd ?_ (by assumption)) | (show _ ≤ _; first | omega | (simp; done) | (simp; omega))))⟩
        have := HB.out
        rw [← this, HZ.out, Nat.add_zero, hm]
        exact HR.out
end Go.Proofs.YtndkpdiacabjgaaGreatDoor
