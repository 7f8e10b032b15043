/-
  The contracts of what answers messages.
-/
import Derived.Test.YtdklpmaeajpacaaDoorMsg
import Derived.Deep.RegionHeld3
import Derived.Deep.DrawnRows
namespace Go.Proofs.YtdklpmaeajpacaaDoor
open Go.RowKit

/-- A kind is one of answers. -/
def isRep (k : Int) : Bool := decide (k = 6 ∨ k = 7)

/-- The number of the error of a message that is to be answered. -/
def reqE (m : Msg) : Int := if chk m ≠ 0 then chk m else if isRep m.kind then 16 else 0

/-- The range of a message that seeks devices. -/
def lowM (m : Msg) : Int := numOf (m.dat.data.toList.take 6)
def highM (m : Msg) : Int := numOf (m.dat.data.toList.drop 6)

/-- The range of a message, or the number of the error. -/
def rangeM (m : Msg) : Int × Int × Int := if chk m ≠ 0 then (0, 0, chk m) else if m.kind ≠ 1 then (0, 0, 1) else (lowM m, highM m, 0)

/-- The answer to a message. -/
def answerM (m : Msg) (src : Int) (dat : ByteArray) : Msg × Int := if reqE m ≠ 0 then (zeroM, reqE m) else rightM ⟨m.src, src, m.seq, 6, m.par, dat⟩

/-- The refusal of a message. -/
def refuseM (m : Msg) (src r : Int) : Msg × Int := if reqE m ≠ 0 then (zeroM, reqE m) else if r < 0 ∨ 255 < r then (zeroM, 2) else rightM ⟨m.src, src, m.seq, 7, m.par, bytesB r 1⟩

/-- A right message that seeks has twelve bytes. -/
theorem chk_size (m : Msg) (h : chk m = 0) (hk : m.kind = 1) : m.dat.size = 12 := by
  grind [chk, lenOf]

set_option maxHeartbeats 400000 in
theorem reply_any (k : Int) (w : World) : Calls Tryd.prog 68 #[.int .i64 k] w fun e w' => e = .returned (.bool (isRep k)) ∧ w = w' := by
  obtain ⟨b1, h1⟩ : ∃ b, (k == 6) = b := ⟨_, rfl⟩
  obtain ⟨b2, h2⟩ : ∃ b, (k == 7) = b := ⟨_, rfl⟩
  go_enter Tryd.func68, Tryd.ntmps68
  go_wp2
  all_goals go_ret
  all_goals exact ⟨ret_bool (by grind [isRep]), rfl⟩

set_option maxHeartbeats 1000000 in
set_option maxRecDepth 100000 in
theorem request_any (dst src seq kind par : Int) (dat : ByteArray) (w : World) :
    Calls Tryd.prog 75 #[.agg #[.int .u64 dst, .int .u64 src, .int .i64 seq, .int .i64 kind, .int .i64 par, .string dat]] w fun e w' => e = .returned (.int .i64 (reqE ⟨dst, src, seq, kind, par, dat⟩)) ∧ Below w.heap.size w w' := by
  go_enter Tryd.func75, Tryd.ntmps75
  go_wp2_with (first | (go_at_call 16; refine (chk_any _ _ _ _ _ _ _).mono ?_; rintro e w1 ⟨rfl, hb⟩; obtain ⟨hc, hf, hT1, hT2, hT3, hT4, hz⟩ := bfacts (n := w.heap.size + 1) hb (by first | (simp; done) | (simp; omega) | omega)) | (go_at_call 68; refine (reply_any _ _).mono ?_; rintro e w' ⟨rfl, rfl⟩))
  all_goals go_ret
  all_goals refine ⟨ret_int ?_, ?_⟩
  all_goals first
    | (repeat' (first | (with_reducible exact Below.refl _ _) | (with_reducible assumption) | (with_reducible refine below_drewN ?_ _) | (with_reducible refine Below.drew ?_) | (with_reducible refine Below.setCell ?_ ?_ _) | (with_reducible refine Below.alloc ?_ ?_ _) | (with_reducible refine below_after ?_ ?_ (by assumption)) | (show _ ≤ _; first | omega | (simp; done) | (simp; omega))))
    | skip
  all_goals clear hb hc hf hT1 hT2 hT3 hT4
  all_goals grind [reqE]

set_option maxHeartbeats 1000000 in
set_option maxRecDepth 100000 in
theorem range_any (dst src seq kind par : Int) (dat : ByteArray) (w : World) :
    Calls Tryd.prog 27 #[.agg #[.int .u64 dst, .int .u64 src, .int .i64 seq, .int .i64 kind, .int .i64 par, .string dat]] w fun e w' => ∃ l h n, e = .returned (.tuple #[.int .u64 l, .int .u64 h, .int .i64 n]) ∧ Hid (rangeM ⟨dst, src, seq, kind, par, dat⟩ = (l, h, n)) ∧ Below w.heap.size w w' := by
  have hk := chk_size ⟨dst, src, seq, kind, par, dat⟩
  have HK := Lib.hid hk
  clear hk
  go_enter Tryd.func27, Tryd.ntmps27
  go_wp2_with (first | (go_at_call 16; refine (chk_any _ _ _ _ _ _ _).mono ?_; rintro e w1 ⟨rfl, hb⟩; obtain ⟨hc, hf, hT1, hT2, hT3, hT4, hz⟩ := bfacts (n := w.heap.size + 1) hb (by first | (simp; done) | (simp; omega) | omega)))
  · have h : chk ⟨dst, src, seq, kind, par, dat⟩ ≠ 0 := ne_of_bne (by assumption)
    go_ret3
    refine ⟨_, _, _, rfl, ?_, ?_⟩
    · simp [Hid, rangeM, h]
    · (repeat' (first | (with_reducible exact Below.refl _ _) | (with_reducible assumption) | (with_reducible refine below_drewN ?_ _) | (with_reducible refine Below.drew ?_) | (with_reducible refine Below.setCell ?_ ?_ _) | (with_reducible refine Below.alloc ?_ ?_ _) | (with_reducible refine below_after ?_ ?_ (by assumption)) | (show _ ≤ _; first | omega | (simp; done) | (simp; omega))))
  · have h : chk ⟨dst, src, seq, kind, par, dat⟩ = 0 := eq_of_bne (by assumption)
    have h1 : kind ≠ 1 := ne_of_bne (by assumption)
    go_ret3
    refine ⟨_, _, _, rfl, ?_, ?_⟩
    · simp [Hid, rangeM, h, h1]
    · (repeat' (first | (with_reducible exact Below.refl _ _) | (with_reducible assumption) | (with_reducible refine below_drewN ?_ _) | (with_reducible refine Below.drew ?_) | (with_reducible refine Below.setCell ?_ ?_ _) | (with_reducible refine Below.alloc ?_ ?_ _) | (with_reducible refine below_after ?_ ?_ (by assumption)) | (show _ ≤ _; first | omega | (simp; done) | (simp; omega))))
  · have h : chk ⟨dst, src, seq, kind, par, dat⟩ = 0 := eq_of_bne (by assumption)
    have h1 : kind = 1 := eq_of_bne (by assumption)
    have hs : dat.size = 12 := HK.out h h1
    have s1 : (6 : Int) ≤ (dat.size : Int) := by omega
    have z1 : (dat.extract 0 6).size ≤ 7 := by simp [ByteArray.size_extract]; omega
    have z2 : (dat.extract 6 dat.size).size ≤ 7 := by simp [ByteArray.size_extract]; omega
    have HE : List.take (dat.size - 6) (List.drop 6 dat.data.toList) = List.drop 6 dat.data.toList := List.take_of_length_le (by simp)
    have H := Lib.hid h
    have H1 := Lib.hid h1
    clear hs h h1
    go_quiet ((go_at_call 57; refine quiet_left (number_any _ _ ?_); assumption))
    go_wp2
    go_ret3
    refine ⟨lowM ⟨dst, src, seq, kind, par, dat⟩, highM ⟨dst, src, seq, kind, par, dat⟩, 0, by simp [lowM, highM, HE], ?_, ?_⟩
    · show rangeM ⟨dst, src, seq, kind, par, dat⟩ = _
      rw [rangeM, if_neg (not_not_intro H.out), if_neg (not_not_intro H1.out)]
    · (repeat' (first | (with_reducible exact Below.refl _ _) | (with_reducible assumption) | (with_reducible refine below_drewN ?_ _) | (with_reducible refine Below.drew ?_) | (with_reducible refine Below.setCell ?_ ?_ _) | (with_reducible refine Below.alloc ?_ ?_ _) | (with_reducible refine below_after ?_ ?_ (by assumption)) | (show _ ≤ _; first | omega | (simp; done) | (simp; omega))))

set_option maxHeartbeats 1000000 in
set_option maxRecDepth 100000 in
theorem answer_any (dst src seq kind par id : Int) (dat s : ByteArray) (w : World) :
    Calls Tryd.prog 37 #[.agg #[.int .u64 dst, .int .u64 src, .int .i64 seq, .int .i64 kind, .int .i64 par, .string dat], .int .u64 id, .string s] w
      fun e w' => ∃ m n, e = .returned (.tuple #[msgV m, .int .i64 n]) ∧ Hid (answerM ⟨dst, src, seq, kind, par, dat⟩ id s = (m, n)) ∧ Below w.heap.size w w' := by
  go_enter Tryd.func37, Tryd.ntmps37
  go_wp2_with (first | (go_at_call 75; refine (request_any _ _ _ _ _ _ _).mono ?_; rintro e w1 ⟨rfl, hb⟩; obtain ⟨hc, hf, hT1, hT2, hT3, hT4, hz⟩ := bfacts (n := w.heap.size + 2) hb (by first | (simp; done) | (simp; omega) | omega)) | (go_at_call 62; refine (right_any _ _ _ _ _ _ _).mono ?_; rintro e w2 ⟨m, n, rfl, hm, hb⟩; obtain ⟨hc, hf, hT1, hT2, hT3, hT4, hz⟩ := bfacts (n := w.heap.size + 2) hb (by first | (simp; done) | (simp; omega) | omega)))
  · have h : reqE ⟨dst, src, seq, kind, par, dat⟩ ≠ 0 := ne_of_bne (by assumption)
    refine bodyPost_ret (v := .tuple #[msgV zeroM, .int .i64 (reqE ⟨dst, src, seq, kind, par, dat⟩)]) ?_ rfl ⟨_, _, rfl, ?_, ?_⟩
    · simp [results, Tryd.results37, go_sem, zeroM, *]
    · simp [Hid, answerM, h]
    · (repeat' (first | (with_reducible exact Below.refl _ _) | (with_reducible assumption) | (with_reducible refine below_drewN ?_ _) | (with_reducible refine Below.drew ?_) | (with_reducible refine Below.setCell ?_ ?_ _) | (with_reducible refine Below.alloc ?_ ?_ _) | (with_reducible refine below_after ?_ ?_ (by assumption)) | (show _ ≤ _; first | omega | (simp; done) | (simp; omega))))
  · have h : reqE ⟨dst, src, seq, kind, par, dat⟩ = 0 := eq_of_bne (by assumption)
    refine bodyPost_ret (v := .tuple #[msgV m, .int .i64 n]) ?_ rfl ⟨_, _, rfl, ?_, ?_⟩
    · simp [results, Tryd.results37, go_sem, *]
    · simp [Hid, answerM, h, hm.out]
    · (repeat' (first | (with_reducible exact Below.refl _ _) | (with_reducible assumption) | (with_reducible refine below_drewN ?_ _) | (with_reducible refine Below.drew ?_) | (with_reducible refine Below.setCell ?_ ?_ _) | (with_reducible refine Below.alloc ?_ ?_ _) | (with_reducible refine below_after ?_ ?_ (by assumption)) | (show _ ≤ _; first | omega | (simp; done) | (simp; omega))))

set_option maxHeartbeats 1000000 in
set_option maxRecDepth 100000 in
theorem refuse_any (dst src seq kind par id r : Int) (dat : ByteArray) (w : World) :
    Calls Tryd.prog 39 #[.agg #[.int .u64 dst, .int .u64 src, .int .i64 seq, .int .i64 kind, .int .i64 par, .string dat], .int .u64 id, .int .i64 r] w
      fun e w' => ∃ m n, e = .returned (.tuple #[msgV m, .int .i64 n]) ∧ Hid (refuseM ⟨dst, src, seq, kind, par, dat⟩ id r = (m, n)) ∧ Below w.heap.size w w' := by
  go_enter Tryd.func39, Tryd.ntmps39
  go_wp2_with (first | (go_at_call 75; refine (request_any _ _ _ _ _ _ _).mono ?_; rintro e w1 ⟨rfl, hb⟩; obtain ⟨hc, hf, hT1, hT2, hT3, hT4, hz⟩ := bfacts (n := w.heap.size + 2) hb (by first | (simp; done) | (simp; omega) | omega)))
  · have h : reqE ⟨dst, src, seq, kind, par, dat⟩ ≠ 0 := ne_of_bne (by assumption)
    refine bodyPost_ret (v := .tuple #[msgV zeroM, .int .i64 (reqE ⟨dst, src, seq, kind, par, dat⟩)]) ?_ rfl ⟨_, _, rfl, ?_, ?_⟩
    · simp [results, Tryd.results39, go_sem, zeroM, *]
    · simp [Hid, refuseM, h]
    · (repeat' (first | (with_reducible exact Below.refl _ _) | (with_reducible assumption) | (with_reducible refine below_drewN ?_ _) | (with_reducible refine Below.drew ?_) | (with_reducible refine Below.setCell ?_ ?_ _) | (with_reducible refine Below.alloc ?_ ?_ _) | (with_reducible refine below_after ?_ ?_ (by assumption)) | (show _ ≤ _; first | omega | (simp; done) | (simp; omega))))
  · have h : reqE ⟨dst, src, seq, kind, par, dat⟩ = 0 := eq_of_bne (by assumption)
    have h1 : r < 0 ∨ 255 < r := by assumption
    refine bodyPost_ret (v := .tuple #[msgV zeroM, .int .i64 2]) ?_ rfl ⟨_, _, rfl, ?_, ?_⟩
    · simp [results, Tryd.results39, go_sem, zeroM, *]
    · simp [Hid, refuseM, h, h1]
    · (repeat' (first | (with_reducible exact Below.refl _ _) | (with_reducible assumption) | (with_reducible refine below_drewN ?_ _) | (with_reducible refine Below.drew ?_) | (with_reducible refine Below.setCell ?_ ?_ _) | (with_reducible refine Below.alloc ?_ ?_ _) | (with_reducible refine below_after ?_ ?_ (by assumption)) | (show _ ≤ _; first | omega | (simp; done) | (simp; omega))))
  · have h : reqE ⟨dst, src, seq, kind, par, dat⟩ = 0 := eq_of_bne (by assumption)
    have h0 : 0 ≤ r := by omega
    have h1 : r ≤ 255 := by omega
    have H := Lib.hid h
    clear h
    have hw : IntKind.u64.wrap r = r := IntWalk.u64_in r (by omega)
    go_region_held3 (fun w' => w'.cell? ⟨w.heap.size, 1, none⟩ = some (.int .u64 src) ∧ w'.cell? ⟨w.heap.size, 2, none⟩ = some (.int .i64 seq) ∧ w'.cell? ⟨w.heap.size, 4, none⟩ = some (.int .i64 par)) (go_keep)
      (first
        | (go_at_call 44; refine (bytes_any _ _ _ (by omega) (by omega) (by omega) (by omega)).mono ?_; rintro e w3 ⟨rfl, hb⟩; obtain ⟨hc, hf, hT1, hT2, hT3, hT4, hz⟩ := bfacts (n := w.heap.size + 2) hb (by first | (simp; done) | (simp; omega) | omega))
        | (go_at_call 62; refine (right_any _ _ _ _ _ _ _).mono ?_; rintro e w4 ⟨m, n, rfl, hm, hb⟩; obtain ⟨hc, hf, hT1, hT2, hT3, hT4, hz⟩ := bfacts (n := w.heap.size + 2) hb (by first | (simp; done) | (simp; omega) | omega)))
    go_wp2
    refine bodyPost_ret (v := .tuple #[msgV m, .int .i64 n]) ?_ rfl ⟨_, _, rfl, ?_, ?_⟩
    · simp [results, Tryd.results39, go_sem, *]
    · show refuseM ⟨dst, src, seq, kind, par, dat⟩ id r = _
      rw [refuseM, if_neg (not_not_intro H.out), if_neg (by omega)]
      exact hm
    · (repeat' (first | (with_reducible exact Below.refl _ _) | (with_reducible assumption) | (with_reducible refine below_drewN ?_ _) | (with_reducible refine Below.drew ?_) | (with_reducible refine Below.setCell ?_ ?_ _) | (with_reducible refine Below.alloc ?_ ?_ _) | (with_reducible refine below_after ?_ ?_ (by assumption)) | (show _ ≤ _; first | omega | (simp; done) | (simp; omega))))
  · have h : reqE ⟨dst, src, seq, kind, par, dat⟩ = 0 := eq_of_bne (by assumption)
    have h1 : r < 0 ∨ 255 < r := .inl (by assumption)
    refine bodyPost_ret (v := .tuple #[msgV zeroM, .int .i64 2]) ?_ rfl ⟨_, _, rfl, ?_, ?_⟩
    · simp [results, Tryd.results39, go_sem, zeroM, *]
    · simp [Hid, refuseM, h, h1]
    · (repeat' (first | (with_reducible exact Below.refl _ _) | (with_reducible assumption) | (with_reducible refine below_drewN ?_ _) | (with_reducible refine Below.drew ?_) | (with_reducible refine Below.setCell ?_ ?_ _) | (with_reducible refine Below.alloc ?_ ?_ _) | (with_reducible refine below_after ?_ ?_ (by assumption)) | (show _ ≤ _; first | omega | (simp; done) | (simp; omega))))

/-- An answer matches a message. -/
def matchesM (m a : Msg) : Bool :=
  decide (chk m = 0 ∧ chk a = 0 ∧ isRep m.kind = false ∧ isRep a.kind = true ∧ a.dst = m.src ∧ a.seq = m.seq ∧ a.par = m.par ∧ (m.dst = 281474976710655 ∨ m.dst = a.src))

set_option maxHeartbeats 1000000 in
set_option maxRecDepth 100000 in
theorem matches_any (dst src seq kind par dst' src' seq' kind' par' : Int) (dat dat' : ByteArray) (w : World) :
    Calls Tryd.prog 24 #[.agg #[.int .u64 dst, .int .u64 src, .int .i64 seq, .int .i64 kind, .int .i64 par, .string dat], .agg #[.int .u64 dst', .int .u64 src', .int .i64 seq', .int .i64 kind', .int .i64 par', .string dat']] w
      fun e w' => e = .returned (.bool (matchesM ⟨dst, src, seq, kind, par, dat⟩ ⟨dst', src', seq', kind', par', dat'⟩)) ∧ Below w.heap.size w w' := by
  obtain ⟨b1, h1⟩ : ∃ b, (dst' != src) = b := ⟨_, rfl⟩
  obtain ⟨b2, h2⟩ : ∃ b, (seq' != seq) = b := ⟨_, rfl⟩
  obtain ⟨b3, h3⟩ : ∃ b, (par' != par) = b := ⟨_, rfl⟩
  obtain ⟨b4, h4⟩ : ∃ b, (dst == 281474976710655) = b := ⟨_, rfl⟩
  obtain ⟨b5, h5⟩ : ∃ b, (dst == src') = b := ⟨_, rfl⟩
  obtain ⟨b6, h6⟩ : ∃ b, (chk ⟨dst, src, seq, kind, par, dat⟩ != 0) = b := ⟨_, rfl⟩
  obtain ⟨b7, h7⟩ : ∃ b, (chk ⟨dst', src', seq', kind', par', dat'⟩ != 0) = b := ⟨_, rfl⟩
  go_enter Tryd.func24, Tryd.ntmps24
  go_wp2_with (first | (go_at_call 16; refine (chk_any _ _ _ _ _ _ _).mono ?_; rintro e w1 ⟨rfl, hb⟩; obtain ⟨hc, hf, hT1, hT2, hT3, hT4, hz⟩ := bfacts (n := w.heap.size + 2) hb (by first | (simp; done) | (simp; omega) | omega)) | (go_at_call 68; refine (reply_any _ _).mono ?_; rintro e w' ⟨rfl, rfl⟩))
  all_goals go_ret
  all_goals refine ⟨ret_bool ?_, ?_⟩
  all_goals first
    | (repeat' (first | (with_reducible exact Below.refl _ _) | (with_reducible assumption) | (with_reducible refine below_drewN ?_ _) | (with_reducible refine Below.drew ?_) | (with_reducible refine Below.setCell ?_ ?_ _) | (with_reducible refine Below.alloc ?_ ?_ _) | (with_reducible refine below_after ?_ ?_ (by assumption)) | (show _ ≤ _; first | omega | (simp; done) | (simp; omega))))
    | skip
  all_goals clear hb hc hf hT1 hT2 hT3 hT4
  all_goals grind [matchesM]

end Go.Proofs.YtdklpmaeajpacaaDoor
