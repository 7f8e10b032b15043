/-
  The contracts of what makes and reads messages.
-/
import Derived.Test.YtpkhcehddfmhpaaGreatChk
namespace Go.Proofs.YtpkhcehddfmhpaaGreat
open Go.RowKit

theorem ne_of_bne {a b : Int} (h : (a != b) = true) : a ≠ b := by simpa using h
theorem eq_of_bne {a b : Int} (h : (a != b) = false) : a = b := by simpa using h
theorem ne_of_beq {a b : Int} (h : (a == b) = false) : a ≠ b := by simpa using h
theorem eq_of_beq {a b : Int} (h : (a == b) = true) : a = b := by simpa using h

/-- A message as a value. -/
@[go_sem] def msgV (m : Msg) : Value := .agg #[.int .u64 m.dst, .int .u64 m.src, .int .i64 m.seq, .int .i64 m.kind, .int .i64 m.par, .string m.dat]

def zeroM : Msg := ⟨0, 0, 0, 0, 0, ⟨#[]⟩⟩

/-- The message, if it is right. -/
def rightM (m : Msg) : Msg × Int := if chk m = 0 then (m, 0) else (zeroM, chk m)

set_option maxHeartbeats 1000000 in
set_option maxRecDepth 100000 in
theorem right_any (dst src seq kind par : Int) (dat : ByteArray) (w : World) :
    Calls Tryz.prog 60 #[.agg #[.int .u64 dst, .int .u64 src, .int .i64 seq, .int .i64 kind, .int .i64 par, .string dat]] w
      fun e w' => ∃ m n, e = .returned (.tuple #[msgV m, .int .i64 n]) ∧ Hid (rightM ⟨dst, src, seq, kind, par, dat⟩ = (m, n)) ∧ Below w.heap.size w w' := by
  go_enter Tryz.func60, Tryz.ntmps60
  go_wp2_with (first | (go_at_call 36; refine (chk_any _ _ _ _ _ _ _).mono ?_; rintro e w1 ⟨rfl, hb⟩; obtain ⟨hc, hf, hT1, hT2, hT3, hT4, hz⟩ := bfacts (n := w.heap.size + 2) hb (by first | (simp; done) | (simp; omega) | omega)))
  · have h : chk ⟨dst, src, seq, kind, par, dat⟩ ≠ 0 := ne_of_bne (by assumption)
    refine bodyPost_ret (v := .tuple #[msgV zeroM, .int .i64 (chk ⟨dst, src, seq, kind, par, dat⟩)]) ?_ rfl ⟨_, _, rfl, ?_, ?_⟩
    · simp [results, Tryz.results60, hc, go_sem, zeroM]
    · simp [Hid, rightM, h]
    · (repeat' (first | (with_reducible exact Below.refl _ _) | (with_reducible assumption) | (with_reducible refine below_drewN ?_ _) | (with_reducible refine Below.drew ?_) | (with_reducible refine Below.setCell ?_ ?_ _) | (with_reducible refine Below.alloc ?_ ?_ _) | (with_reducible refine below_after ?_ ?_ (by assumption)) | (show _ ≤ _; first | omega | (simp; done) | (simp; omega))))
  · have h : chk ⟨dst, src, seq, kind, par, dat⟩ = 0 := eq_of_bne (by assumption)
    refine bodyPost_ret (v := .tuple #[msgV ⟨dst, src, seq, kind, par, dat⟩, .int .i64 0]) ?_ rfl ⟨_, _, rfl, ?_, ?_⟩
    · simp [results, Tryz.results60, hc, go_sem]
    · simp [Hid, rightM, h]
    · (repeat' (first | (with_reducible exact Below.refl _ _) | (with_reducible assumption) | (with_reducible refine below_drewN ?_ _) | (with_reducible refine Below.drew ?_) | (with_reducible refine Below.setCell ?_ ?_ _) | (with_reducible refine Below.alloc ?_ ?_ _) | (with_reducible refine below_after ?_ ?_ (by assumption)) | (show _ ≤ _; first | omega | (simp; done) | (simp; omega))))

/-- The message that seeks devices in a range. -/
def discM (src seq low high : Int) : Msg :=
  ⟨281474976710655, src, seq, 1, 0, if isId low && isId high then bytesB low 6 ++ bytesB high 6 else bytesB 0 12⟩

theorem bytesB_size (n c : Int) : (bytesB n c).size = c.toNat := by simp [bytesB, str_size, bytesOf_length]

set_option maxHeartbeats 1000000 in
set_option maxRecDepth 100000 in
theorem discover_any (src seq low high : Int) (w : World) (h0 : 0 ≤ low) (h1 : low < 18446744073709551616) (h2 : 0 ≤ high) (h3 : high < 18446744073709551616) :
    Calls Tryz.prog 137 #[.int .u64 src, .int .i64 seq, .int .u64 low, .int .u64 high] w
      fun e w' => ∃ m n, e = .returned (.tuple #[msgV m, .int .i64 n]) ∧ Hid (rightM (discM src seq low high) = (m, n)) ∧ Below w.heap.size w w' := by
  have z1 : (bytesB low 6).size ≤ 100 := by rw [bytesB_size]; decide
  have z2 : (bytesB high 6).size ≤ 100 := by rw [bytesB_size]; decide
  go_enter Tryz.func137, Tryz.ntmps137
  go_wp2_with fail
  refine (bytes_any _ _ _ (by omega) (by omega) (by omega) (by omega)).mono ?_
  rintro e w1 ⟨rfl, hb⟩
  obtain ⟨hc, hf, hT1, hT2, hT3, hT4, hz⟩ := bfacts (n := w.heap.size + 1) hb (by first | (simp; done) | (simp; omega) | omega)
  go_wp2_with fail
  refine (bytes_any _ _ _ (by omega) (by omega) (by omega) (by omega)).mono ?_
  rintro e w2 ⟨rfl, hb⟩
  obtain ⟨hc, hf, hT1, hT2, hT3, hT4, hz⟩ := bfacts (n := w.heap.size + 1) hb (by first | (simp; done) | (simp; omega) | omega)
  obtain ⟨bi, hbi⟩ : ∃ b, (isId low && isId high) = b := ⟨_, rfl⟩
  go_upto_region 2 with fail
  go_cut [26] (fun s7 wx => s7 = .bool (!bi) ∧ wx = w2.alloc (.cells #[.int .u64 281474976710655, .int .u64 src, .int .i64 seq, .int .i64 1, .int .i64 0, .string (bytesB low 6 ++ bytesB high 6)] 52))
  case first =>
    go_wp2_with (first | (go_at_call 81; refine (is_any _ _).mono ?_; rintro e w' ⟨rfl, rfl⟩))
    all_goals go_meet
    all_goals exact ⟨by congr 1; clear hc hf hT1 hT2 hT3 hT4; grind, rfl⟩
  case rest =>
    obtain ⟨rfl, rfl⟩ := hcut
    have hd : discM src seq low high = ⟨281474976710655, src, seq, 1, 0, if bi then bytesB low 6 ++ bytesB high 6 else bytesB 0 12⟩ := by rw [discM, hbi]
    have HD := Lib.hid hd
    clear hd hbi
    have g0 : w.heap.size < w2.heap.size := by omega
    have g1 : w.heap.size ≤ w2.heap.size := by omega
    have g2 : w.heap.size < w2.heap.size + 1 := by omega
    cases bi
    · go_wp2_with (first | (go_at_call 39; refine (bytes_any _ _ _ (by omega) (by omega) (by omega) (by omega)).mono ?_; rintro e w3 ⟨rfl, hb⟩; obtain ⟨hc, hf, hT1, hT2, hT3, hT4, hz⟩ := bfacts (n := w2.heap.size + 1) hb (by first | (simp; done) | (simp; omega) | omega)) | (go_at_call 60; refine (right_any _ _ _ _ _ _ _).mono ?_; rintro e w4 ⟨m, n, rfl, hm, hb⟩; obtain ⟨hc, hf, hT1, hT2, hT3, hT4, hz⟩ := bfacts (n := w2.heap.size + 1) hb (by first | (simp; done) | (simp; omega) | omega)))
      refine bodyPost_ret (v := .tuple #[msgV m, .int .i64 n]) ?_ rfl ⟨m, n, rfl, by rw [HD.out]; exact hm, ?_⟩
      · simp [results, Tryz.results137, go_sem, *]
      · (repeat' (first | (with_reducible exact Below.refl _ _) | (with_reducible assumption) | (with_reducible refine below_drewN ?_ _) | (with_reducible refine Below.drew ?_) | (with_reducible refine Below.setCell ?_ ?_ _) | (with_reducible refine Below.alloc ?_ ?_ _) | (with_reducible refine below_after ?_ ?_ (by assumption)) | (show _ ≤ _; first | omega | (simp; done) | (simp; omega))))
    · go_wp2_with (first | (go_at_call 60; refine (right_any _ _ _ _ _ _ _).mono ?_; rintro e w4 ⟨m, n, rfl, hm, hb⟩; obtain ⟨hc, hf, hT1, hT2, hT3, hT4, hz⟩ := bfacts (n := w2.heap.size + 1) hb (by first | (simp; done) | (simp; omega) | omega)))
      refine bodyPost_ret (v := .tuple #[msgV m, .int .i64 n]) ?_ rfl ⟨m, n, rfl, by rw [HD.out]; exact hm, ?_⟩
      · simp [results, Tryz.results137, go_sem, *]
      · (repeat' (first | (with_reducible exact Below.refl _ _) | (with_reducible assumption) | (with_reducible refine below_drewN ?_ _) | (with_reducible refine Below.drew ?_) | (with_reducible refine Below.setCell ?_ ?_ _) | (with_reducible refine Below.alloc ?_ ?_ _) | (with_reducible refine below_after ?_ ?_ (by assumption)) | (show _ ≤ _; first | omega | (simp; done) | (simp; omega))))

end Go.Proofs.YtpkhcehddfmhpaaGreat
