/-
  The contracts of what answers messages.
  What a device does with a message: the model, and lemmas on it.
-/
import Derived.Test.YtpkhcehddfmhpaaGreatMsg
import Derived.Deep.RegionHeld3
import Derived.Deep.DrawnRows
import Derived.Test.YtpkhcehddfmhpaaGreatWrite
namespace Go.Proofs.YtpkhcehddfmhpaaGreat
open Go.RowKit

/-- A kind is one of answers. -/
def isRep (k : Int) : Bool := decide (k = 6 ∨ k = 7)

/-- The number of the error of a message that is to be answered. -/
def reqE (m : Msg) : Int := if chk m ≠ 0 then chk m else if isRep m.kind then 16 else 0

/-- The range of a message that seeks devices. -/
def lowM (m : Msg) : Int := numOf (m.dat.data.toList.take 6)
def highM (m : Msg) : Int := numOf (m.dat.data.toList.drop 6)

/-- The range of a message, or the number of the error. -/
def rangeM (m : Msg) : Int × Int × Int := if chk m ≠ 0 then (0, 0, chk m) else if m.kind ≠ 1 then (0, 0, 1) else (lowM m, highM m, 0)

/-- The answer to a message. -/
def answerM (m : Msg) (src : Int) (dat : ByteArray) : Msg × Int := if reqE m ≠ 0 then (zeroM, reqE m) else rightM ⟨m.src, src, m.seq, 6, m.par, dat⟩

/-- The refusal of a message. -/
def refuseM (m : Msg) (src r : Int) : Msg × Int := if reqE m ≠ 0 then (zeroM, reqE m) else if r < 0 ∨ 255 < r then (zeroM, 2) else rightM ⟨m.src, src, m.seq, 7, m.par, bytesB r 1⟩

/-- A right message that seeks has twelve bytes. -/
theorem chk_size (m : Msg) (h : chk m = 0) (hk : m.kind = 1) : m.dat.size = 12 := by
  grind [chk, lenOf]

set_option maxHeartbeats 400000 in
theorem reply_any (k : Int) (w : World) : Calls Tryz.prog 92 #[.int .i64 k] w fun e w' => e = .returned (.bool (isRep k)) ∧ w = w' := by
  obtain ⟨b1, h1⟩ : ∃ b, (k == 6) = b := ⟨_, rfl⟩
  obtain ⟨b2, h2⟩ : ∃ b, (k == 7) = b := ⟨_, rfl⟩
  go_enter Tryz.func92, Tryz.ntmps92
  go_wp2
  all_goals go_ret
  all_goals exact ⟨ret_bool (by grind [isRep]), rfl⟩

set_option maxHeartbeats 1000000 in
set_option maxRecDepth 100000 in
theorem request_any (dst src seq kind par : Int) (dat : ByteArray) (w : World) :
    Calls Tryz.prog 178 #[.agg #[.int .u64 dst, .int .u64 src, .int .i64 seq, .int .i64 kind, .int .i64 par, .string dat]] w fun e w' => e = .returned (.int .i64 (reqE ⟨dst, src, seq, kind, par, dat⟩)) ∧ Below w.heap.size w w' := by
  go_enter Tryz.func178, Tryz.ntmps178
  go_wp2_with (first | (go_at_call 36; refine (chk_any _ _ _ _ _ _ _).mono ?_; rintro e w1 ⟨rfl, hb⟩; obtain ⟨hc, hf, hT1, hT2, hT3, hT4, hz⟩ := bfacts (n := w.heap.size + 1) hb (by first | (simp; done) | (simp; omega) | omega)) | (go_at_call 92; refine (reply_any _ _).mono ?_; rintro e w' ⟨rfl, rfl⟩))
  all_goals go_ret
  all_goals refine ⟨ret_int ?_, ?_⟩
  all_goals first
    | (repeat' (first | (with_reducible exact Below.refl _ _) | (with_reducible assumption) | (with_reducible refine below_drewN ?_ _) | (with_reducible refine Below.drew ?_) | (with_reducible refine Below.setCell ?_ ?_ _) | (with_reducible refine Below.alloc ?_ ?_ _) | (with_reducible refine below_after ?_ ?_ (by assumption)) | (show _ ≤ _; first | omega | (simp; done) | (simp; omega))))
    | skip
  all_goals clear hb hc hf hT1 hT2 hT3 hT4
  all_goals grind [reqE]

set_option maxHeartbeats 1000000 in
set_option maxRecDepth 100000 in
theorem range_any (dst src seq kind par : Int) (dat : ByteArray) (w : World) :
    Calls Tryz.prog 157 #[.agg #[.int .u64 dst, .int .u64 src, .int .i64 seq, .int .i64 kind, .int .i64 par, .string dat]] w fun e w' => ∃ l h n, e = .returned (.tuple #[.int .u64 l, .int .u64 h, .int .i64 n]) ∧ Hid (rangeM ⟨dst, src, seq, kind, par, dat⟩ = (l, h, n)) ∧ Below w.heap.size w w' := by
  have hk := chk_size ⟨dst, src, seq, kind, par, dat⟩
  have HK := Lib.hid hk
  clear hk
  go_enter Tryz.func157, Tryz.ntmps157
  go_wp2_with (first | (go_at_call 36; refine (chk_any _ _ _ _ _ _ _).mono ?_; rintro e w1 ⟨rfl, hb⟩; obtain ⟨hc, hf, hT1, hT2, hT3, hT4, hz⟩ := bfacts (n := w.heap.size + 1) hb (by first | (simp; done) | (simp; omega) | omega)))
  · have h : chk ⟨dst, src, seq, kind, par, dat⟩ ≠ 0 := ne_of_bne (by assumption)
    go_ret3
    refine ⟨_, _, _, rfl, ?_, ?_⟩
    · simp [Hid, rangeM, h]
    · (repeat' (first | (with_reducible exact Below.refl _ _) | (with_reducible assumption) | (with_reducible refine below_drewN ?_ _) | (with_reducible refine Below.drew ?_) | (with_reducible refine Below.setCell ?_ ?_ _) | (with_reducible refine Below.alloc ?_ ?_ _) | (with_reducible refine below_after ?_ ?_ (by assumption)) | (show _ ≤ _; first | omega | (simp; done) | (simp; omega))))
  · have h : chk ⟨dst, src, seq, kind, par, dat⟩ = 0 := eq_of_bne (by assumption)
    have h1 : kind ≠ 1 := ne_of_bne (by assumption)
    go_ret3
    refine ⟨_, _, _, rfl, ?_, ?_⟩
    · simp [Hid, rangeM, h, h1]
    · (repeat' (first | (with_reducible exact Below.refl _ _) | (with_reducible assumption) | (with_reducible refine below_drewN ?_ _) | (with_reducible refine Below.drew ?_) | (with_reducible refine Below.setCell ?_ ?_ _) | (with_reducible refine Below.alloc ?_ ?_ _) | (with_reducible refine below_after ?_ ?_ (by assumption)) | (show _ ≤ _; first | omega | (simp; done) | (simp; omega))))
  · have h : chk ⟨dst, src, seq, kind, par, dat⟩ = 0 := eq_of_bne (by assumption)
    have h1 : kind = 1 := eq_of_bne (by assumption)
    have hs : dat.size = 12 := HK.out h h1
    have s1 : (6 : Int) ≤ (dat.size : Int) := by omega
    have z1 : (dat.extract 0 6).size ≤ 7 := by simp [ByteArray.size_extract]; omega
    have z2 : (dat.extract 6 dat.size).size ≤ 7 := by simp [ByteArray.size_extract]; omega
    have HE : List.take (dat.size - 6) (List.drop 6 dat.data.toList) = List.drop 6 dat.data.toList := List.take_of_length_le (by simp)
    have H := Lib.hid h
    have H1 := Lib.hid h1
    clear hs h h1
    go_quiet ((go_at_call 59; refine quiet_left (number_any _ _ ?_); assumption))
    go_wp2
    go_ret3
    refine ⟨lowM ⟨dst, src, seq, kind, par, dat⟩, highM ⟨dst, src, seq, kind, par, dat⟩, 0, by simp [lowM, highM, HE], ?_, ?_⟩
    · show rangeM ⟨dst, src, seq, kind, par, dat⟩ = _
      rw [rangeM, if_neg (not_not_intro H.out), if_neg (not_not_intro H1.out)]
    · (repeat' (first | (with_reducible exact Below.refl _ _) | (with_reducible assumption) | (with_reducible refine below_drewN ?_ _) | (with_reducible refine Below.drew ?_) | (with_reducible refine Below.setCell ?_ ?_ _) | (with_reducible refine Below.alloc ?_ ?_ _) | (with_reducible refine below_after ?_ ?_ (by assumption)) | (show _ ≤ _; first | omega | (simp; done) | (simp; omega))))

set_option maxHeartbeats 1000000 in
set_option maxRecDepth 100000 in
theorem answer_any (dst src seq kind par id : Int) (dat s : ByteArray) (w : World) :
    Calls Tryz.prog 158 #[.agg #[.int .u64 dst, .int .u64 src, .int .i64 seq, .int .i64 kind, .int .i64 par, .string dat], .int .u64 id, .string s] w
      fun e w' => ∃ m n, e = .returned (.tuple #[msgV m, .int .i64 n]) ∧ Hid (answerM ⟨dst, src, seq, kind, par, dat⟩ id s = (m, n)) ∧ Below w.heap.size w w' := by
  go_enter Tryz.func158, Tryz.ntmps158
  go_wp2_with (first | (go_at_call 178; refine (request_any _ _ _ _ _ _ _).mono ?_; rintro e w1 ⟨rfl, hb⟩; obtain ⟨hc, hf, hT1, hT2, hT3, hT4, hz⟩ := bfacts (n := w.heap.size + 2) hb (by first | (simp; done) | (simp; omega) | omega)) | (go_at_call 60; refine (right_any _ _ _ _ _ _ _).mono ?_; rintro e w2 ⟨m, n, rfl, hm, hb⟩; obtain ⟨hc, hf, hT1, hT2, hT3, hT4, hz⟩ := bfacts (n := w.heap.size + 2) hb (by first | (simp; done) | (simp; omega) | omega)))
  · have h : reqE ⟨dst, src, seq, kind, par, dat⟩ ≠ 0 := ne_of_bne (by assumption)
    refine bodyPost_ret (v := .tuple #[msgV zeroM, .int .i64 (reqE ⟨dst, src, seq, kind, par, dat⟩)]) ?_ rfl ⟨_, _, rfl, ?_, ?_⟩
    · simp [results, Tryz.results158, go_sem, zeroM, *]
    · simp [Hid, answerM, h]
    · (repeat' (first | (with_reducible exact Below.refl _ _) | (with_reducible assumption) | (with_reducible refine below_drewN ?_ _) | (with_reducible refine Below.drew ?_) | (with_reducible refine Below.setCell ?_ ?_ _) | (with_reducible refine Below.alloc ?_ ?_ _) | (with_reducible refine below_after ?_ ?_ (by assumption)) | (show _ ≤ _; first | omega | (simp; done) | (simp; omega))))
  · have h : reqE ⟨dst, src, seq, kind, par, dat⟩ = 0 := eq_of_bne (by assumption)
    refine bodyPost_ret (v := .tuple #[msgV m, .int .i64 n]) ?_ rfl ⟨_, _, rfl, ?_, ?_⟩
    · simp [results, Tryz.results158, go_sem, *]
    · simp [Hid, answerM, h, hm.out]
    · (repeat' (first | (with_reducible exact Below.refl _ _) | (with_reducible assumption) | (with_reducible refine below_drewN ?_ _) | (with_reducible refine Below.drew ?_) | (with_reducible refine Below.setCell ?_ ?_ _) | (with_reducible refine Below.alloc ?_ ?_ _) | (with_reducible refine below_after ?_ ?_ (by assumption)) | (show _ ≤ _; first | omega | (simp; done) | (simp; omega))))

set_option maxHeartbeats 1000000 in
set_option maxRecDepth 100000 in
theorem refuse_any (dst src seq kind par id r : Int) (dat : ByteArray) (w : World) :
    Calls Tryz.prog 162 #[.agg #[.int .u64 dst, .int .u64 src, .int .i64 seq, .int .i64 kind, .int .i64 par, .string dat], .int .u64 id, .int .i64 r] w
      fun e w' => ∃ m n, e = .returned (.tuple #[msgV m, .int .i64 n]) ∧ Hid (refuseM ⟨dst, src, seq, kind, par, dat⟩ id r = (m, n)) ∧ Below w.heap.size w w' := by
  go_enter Tryz.func162, Tryz.ntmps162
  go_wp2_with (first | (go_at_call 178; refine (request_any _ _ _ _ _ _ _).mono ?_; rintro e w1 ⟨rfl, hb⟩; obtain ⟨hc, hf, hT1, hT2, hT3, hT4, hz⟩ := bfacts (n := w.heap.size + 2) hb (by first | (simp; done) | (simp; omega) | omega)))
  · have h : reqE ⟨dst, src, seq, kind, par, dat⟩ ≠ 0 := ne_of_bne (by assumption)
    refine bodyPost_ret (v := .tuple #[msgV zeroM, .int .i64 (reqE ⟨dst, src, seq, kind, par, dat⟩)]) ?_ rfl ⟨_, _, rfl, ?_, ?_⟩
    · simp [results, Tryz.results162, go_sem, zeroM, *]
    · simp [Hid, refuseM, h]
    · (repeat' (first | (with_reducible exact Below.refl _ _) | (with_reducible assumption) | (with_reducible refine below_drewN ?_ _) | (with_reducible refine Below.drew ?_) | (with_reducible refine Below.setCell ?_ ?_ _) | (with_reducible refine Below.alloc ?_ ?_ _) | (with_reducible refine below_after ?_ ?_ (by assumption)) | (show _ ≤ _; first | omega | (simp; done) | (simp; omega))))
  · have h : reqE ⟨dst, src, seq, kind, par, dat⟩ = 0 := eq_of_bne (by assumption)
    have h1 : r < 0 ∨ 255 < r := by assumption
    refine bodyPost_ret (v := .tuple #[msgV zeroM, .int .i64 2]) ?_ rfl ⟨_, _, rfl, ?_, ?_⟩
    · simp [results, Tryz.results162, go_sem, zeroM, *]
    · simp [Hid, refuseM, h, h1]
    · (repeat' (first | (with_reducible exact Below.refl _ _) | (with_reducible assumption) | (with_reducible refine below_drewN ?_ _) | (with_reducible refine Below.drew ?_) | (with_reducible refine Below.setCell ?_ ?_ _) | (with_reducible refine Below.alloc ?_ ?_ _) | (with_reducible refine below_after ?_ ?_ (by assumption)) | (show _ ≤ _; first | omega | (simp; done) | (simp; omega))))
  · have h : reqE ⟨dst, src, seq, kind, par, dat⟩ = 0 := eq_of_bne (by assumption)
    have h0 : 0 ≤ r := by omega
    have h1 : r ≤ 255 := by omega
    have H := Lib.hid h
    clear h
    have hw : IntKind.u64.wrap r = r := IntWalk.u64_in r (by omega)
    go_region_held3 (fun w' => w'.cell? ⟨w.heap.size, 1, none⟩ = some (.int .u64 src) ∧ w'.cell? ⟨w.heap.size, 2, none⟩ = some (.int .i64 seq) ∧ w'.cell? ⟨w.heap.size, 4, none⟩ = some (.int .i64 par)) (go_keep)
      (first
        | (go_at_call 39; refine (bytes_any _ _ _ (by omega) (by omega) (by omega) (by omega)).mono ?_; rintro e w3 ⟨rfl, hb⟩; obtain ⟨hc, hf, hT1, hT2, hT3, hT4, hz⟩ := bfacts (n := w.heap.size + 2) hb (by first | (simp; done) | (simp; omega) | omega))
        | (go_at_call 60; refine (right_any _ _ _ _ _ _ _).mono ?_; rintro e w4 ⟨m, n, rfl, hm, hb⟩; obtain ⟨hc, hf, hT1, hT2, hT3, hT4, hz⟩ := bfacts (n := w.heap.size + 2) hb (by first | (simp; done) | (simp; omega) | omega)))
    go_wp2
    refine bodyPost_ret (v := .tuple #[msgV m, .int .i64 n]) ?_ rfl ⟨_, _, rfl, ?_, ?_⟩
    · simp [results, Tryz.results162, go_sem, *]
    · show refuseM ⟨dst, src, seq, kind, par, dat⟩ id r = _
      rw [refuseM, if_neg (not_not_intro H.out), if_neg (by omega)]
      exact hm
    · (repeat' (first | (with_reducible exact Below.refl _ _) | (with_reducible assumption) | (with_reducible refine below_drewN ?_ _) | (with_reducible refine Below.drew ?_) | (with_reducible refine Below.setCell ?_ ?_ _) | (with_reducible refine Below.alloc ?_ ?_ _) | (with_reducible refine below_after ?_ ?_ (by assumption)) | (show _ ≤ _; first | omega | (simp; done) | (simp; omega))))
  · have h : reqE ⟨dst, src, seq, kind, par, dat⟩ = 0 := eq_of_bne (by assumption)
    have h1 : r < 0 ∨ 255 < r := .inl (by assumption)
    refine bodyPost_ret (v := .tuple #[msgV zeroM, .int .i64 2]) ?_ rfl ⟨_, _, rfl, ?_, ?_⟩
    · simp [results, Tryz.results162, go_sem, zeroM, *]
    · simp [Hid, refuseM, h, h1]
    · (repeat' (first | (with_reducible exact Below.refl _ _) | (with_reducible assumption) | (with_reducible refine below_drewN ?_ _) | (with_reducible refine Below.drew ?_) | (with_reducible refine Below.setCell ?_ ?_ _) | (with_reducible refine Below.alloc ?_ ?_ _) | (with_reducible refine below_after ?_ ?_ (by assumption)) | (show _ ≤ _; first | omega | (simp; done) | (simp; omega))))

/-- An answer matches a message. -/
def matchesM (m a : Msg) : Bool :=
  decide (chk m = 0 ∧ chk a = 0 ∧ isRep m.kind = false ∧ isRep a.kind = true ∧ a.dst = m.src ∧ a.seq = m.seq ∧ a.par = m.par ∧ (m.dst = 281474976710655 ∨ m.dst = a.src))

set_option maxHeartbeats 1000000 in
set_option maxRecDepth 100000 in
theorem matches_any (dst src seq kind par dst' src' seq' kind' par' : Int) (dat dat' : ByteArray) (w : World) :
    Calls Tryz.prog 69 #[.agg #[.int .u64 dst, .int .u64 src, .int .i64 seq, .int .i64 kind, .int .i64 par, .string dat], .agg #[.int .u64 dst', .int .u64 src', .int .i64 seq', .int .i64 kind', .int .i64 par', .string dat']] w
      fun e w' => e = .returned (.bool (matchesM ⟨dst, src, seq, kind, par, dat⟩ ⟨dst', src', seq', kind', par', dat'⟩)) ∧ Below w.heap.size w w' := by
  obtain ⟨b1, h1⟩ : ∃ b, (dst' != src) = b := ⟨_, rfl⟩
  obtain ⟨b2, h2⟩ : ∃ b, (seq' != seq) = b := ⟨_, rfl⟩
  obtain ⟨b3, h3⟩ : ∃ b, (par' != par) = b := ⟨_, rfl⟩
  obtain ⟨b4, h4⟩ : ∃ b, (dst == 281474976710655) = b := ⟨_, rfl⟩
  obtain ⟨b5, h5⟩ : ∃ b, (dst == src') = b := ⟨_, rfl⟩
  obtain ⟨b6, h6⟩ : ∃ b, (chk ⟨dst, src, seq, kind, par, dat⟩ != 0) = b := ⟨_, rfl⟩
  obtain ⟨b7, h7⟩ : ∃ b, (chk ⟨dst', src', seq', kind', par', dat'⟩ != 0) = b := ⟨_, rfl⟩
  go_enter Tryz.func69, Tryz.ntmps69
  go_wp2_with (first | (go_at_call 36; refine (chk_any _ _ _ _ _ _ _).mono ?_; rintro e w1 ⟨rfl, hb⟩; obtain ⟨hc, hf, hT1, hT2, hT3, hT4, hz⟩ := bfacts (n := w.heap.size + 2) hb (by first | (simp; done) | (simp; omega) | omega)) | (go_at_call 92; refine (reply_any _ _).mono ?_; rintro e w' ⟨rfl, rfl⟩))
  all_goals go_ret
  all_goals refine ⟨ret_bool ?_, ?_⟩
  all_goals first
    | (repeat' (first | (with_reducible exact Below.refl _ _) | (with_reducible assumption) | (with_reducible refine below_drewN ?_ _) | (with_reducible refine Below.drew ?_) | (with_reducible refine Below.setCell ?_ ?_ _) | (with_reducible refine Below.alloc ?_ ?_ _) | (with_reducible refine below_after ?_ ?_ (by assumption)) | (show _ ≤ _; first | omega | (simp; done) | (simp; omega))))
    | skip
  all_goals clear hb hc hf hT1 hT2 hT3 hT4
  all_goals grind [matchesM]

end Go.Proofs.YtpkhcehddfmhpaaGreat

namespace Go.Proofs.YtpkhcehddfmhpaaGreat
open Go.RowKit

theorem DevAt.drewN {w : World} {b : Nat} {d : Dev} (h : DevAt w b d) (n : Nat) : DevAt (w.drewN n) b d := h
theorem DevAt.drew {w : World} {b : Nat} {d : Dev} (h : DevAt w b d) : DevAt w.drew b d := h



/-- A block is a message. -/
def MsgAt (w : World) (b : Nat) (m : Msg) : Prop := w.heap[b]? = some (.cells #[.int .u64 m.dst, .int .u64 m.src, .int .i64 m.seq, .int .i64 m.kind, .int .i64 m.par, .string m.dat] 52 (0, 0))

theorem MsgAt.below {w w' : World} {b B : Nat} {m : Msg} (h : MsgAt w b m) (hb : Below B w w') (hB : b < B) : MsgAt w' b m := (hb.block b hB).trans h
theorem MsgAt.far {w : World} {b : Nat} {m : Msg} {p : Addr} {u : Value} (h : MsgAt w b m) (hne : b ≠ p.block) : MsgAt (w.setCell p u) b m := (heap_setCell_other w p b u hne).trans h
theorem MsgAt.alloc {w : World} {b : Nat} {m : Msg} (h : MsgAt w b m) (o : Obj) : MsgAt (w.alloc o) b m := (Below.heap_alloc w o b (lt_of_block h)).trans h
theorem MsgAt.drewN {w : World} {b : Nat} {m : Msg} (h : MsgAt w b m) (n : Nat) : MsgAt (w.drewN n) b m := h
theorem MsgAt.drew {w : World} {b : Nat} {m : Msg} (h : MsgAt w b m) : MsgAt w.drew b m := h
theorem MsgAt.new (w : World) (m : Msg) : MsgAt (w.alloc (.cells #[.int .u64 m.dst, .int .u64 m.src, .int .i64 m.seq, .int .i64 m.kind, .int .i64 m.par, .string m.dat] 52)) w.heap.size m := heap_alloc_new w _

theorem MsgAt.mk {w : World} {b : Nat} {m : Msg} {cs : Array Value} (hb : b = w.heap.size) (hc : cs = #[.int .u64 m.dst, .int .u64 m.src, .int .i64 m.seq, .int .i64 m.kind, .int .i64 m.par, .string m.dat]) : MsgAt (w.alloc (.cells cs 52)) b m := by
  subst hb hc
  exact heap_alloc_new w _
theorem DevAt.mk {w : World} {b : Nat} {d : Dev} {cs : Array Value} (hb : b = w.heap.size) (hc : cs = devA d) : DevAt (w.alloc (.cells cs 91)) b d := by
  subst hb hc
  exact heap_alloc_new w _

theorem msg_facts {w : World} {b : Nat} {m : Msg} (h : MsgAt w b m) :
    (∀ o, w.cell? ⟨b, o, none⟩ = #[Value.int .u64 m.dst, .int .u64 m.src, .int .i64 m.seq, .int .i64 m.kind, .int .i64 m.par, .string m.dat][o]?) ∧ (∀ o, w.frozen? ⟨b, o, none⟩ = false) ∧
    b < w.heap.size ∧ b ≤ w.heap.size ∧ ¬ b = w.heap.size ∧ ¬ w.heap.size = b := by
  have hlt := lt_of_block h
  exact ⟨fun o => cell_of_row w b o _ _ _ h, fun o => frozen_of_row w b o _ _ h, hlt, by omega, by omega, by omega⟩

theorem dev_facts2 {w : World} {b : Nat} {d : Dev} (h : DevAt w b d) :
    (∀ o, w.cell? ⟨b, o, none⟩ = #[Value.int .u64 d.id, .int .i64 d.ft, .int .i64 d.ad, .string d.lb, .int .i64 d.hr, .bool d.mu, .bool d.idf][o]?) ∧ (∀ o, w.frozen? ⟨b, o, none⟩ = false) ∧
    b < w.heap.size ∧ b ≤ w.heap.size ∧ ¬ b = w.heap.size ∧ ¬ w.heap.size = b := by
  have hlt := lt_of_block h
  exact ⟨fun o => cell_of_row w b o _ _ _ h, fun o => frozen_of_row w b o _ _ h, hlt, by omega, by omega, by omega⟩

/-- An answer. -/
def replied (m : Msg) (id kind : Int) (s : ByteArray) : Msg := ⟨m.src, id, m.seq, kind, m.par, s⟩

/-- The answer with some data, or with a reason that is not -1. -/
def answered (m : Msg) (id : Int) (s : ByteArray) (r : Int) : Msg := if 0 ≤ r then replied m id 7 (bytesB r 1) else replied m id 6 s

/-- The device behind a message that is no search, the data and the reason. -/
def doneD (d : Dev) (m : Msg) : Dev × ByteArray × Int :=
  if m.kind = 2 then ({ d with mu := true }, ⟨#[]⟩, -1) else if m.kind = 3 then ({ d with mu := false }, ⟨#[]⟩, -1)
  else if m.kind = 4 then (d, shownD d m.par) else if m.kind = 5 then ((putD d m.par m.dat).1, ⟨#[]⟩, (putD d m.par m.dat).2) else (d, ⟨#[]⟩, -1)

/-- The message is not for the device. -/
def deafD (d : Dev) (m : Msg) : Bool := decide ((m.dst ≠ d.id ∧ m.dst ≠ 281474976710655) ∨ m.kind = 6 ∨ m.kind = 7)

/-- The device does not answer to the search. -/
def hushD (d : Dev) (m : Msg) : Bool := d.mu || decide (d.id < lowM m ∨ highM m < d.id)

/-- A right device behind a right message, its answer, and whether there is one. -/
def recvD (d : Dev) (m : Msg) : Dev × Msg × Bool :=
  if deafD d m then (d, zeroM, false)
  else if m.kind = 1 then (if hushD d m then (d, zeroM, false) else (d, replied m d.id 6 (bytesB d.id 6), true))
  else if m.dst = 281474976710655 then ((doneD d m).1, zeroM, false)
  else ((doneD d m).1, answered m d.id (doneD d m).2.1 (doneD d m).2.2, true)

theorem chk_head (m : Msg) (h : chk m = 0) : isId m.src = true ∧ 0 ≤ m.seq ∧ m.seq ≤ 255 ∧ 0 ≤ m.par ∧ m.par ≤ 65535 := by grind [chk]

theorem chk_reply (src id seq par k : Int) (s : ByteArray) (h1 : isId src = true) (h2 : 0 ≤ seq) (h3 : seq ≤ 255) (h4 : 0 ≤ par) (h5 : par ≤ 65535) (hi : isId id = true)
    (hk : k = 6 ∧ s.size ≤ 255 ∨ k = 7 ∧ s.size = 1) : chk ⟨src, id, seq, k, par, s⟩ = 0 := by
  unfold chk
  simp only [h1, hi, Bool.true_or, Bool.true_eq_false, false_or]
  rw [if_neg (by omega), if_neg (by omega), if_neg (by omega), if_neg (by omega)]
  rcases hk with ⟨rfl, hs⟩ | ⟨rfl, hs⟩
  · rw [if_neg (by simp [lenOf]), if_neg (by omega)]
  · rw [if_neg (by simp [lenOf]; omega), if_neg (by omega)]

theorem chk_replied (m : Msg) (id : Int) (s : ByteArray) (h : chk m = 0) (hi : isId id = true) (hs : s.size ≤ 255) : chk (replied m id 6 s) = 0 := by
  obtain ⟨h1, h2, h3, h4, h5⟩ := chk_head m h
  exact chk_reply _ _ _ _ _ _ h1 h2 h3 h4 h5 hi (.inl ⟨rfl, hs⟩)
theorem chk_refused (m : Msg) (id : Int) (s : ByteArray) (h : chk m = 0) (hi : isId id = true) (hs : s.size = 1) : chk (replied m id 7 s) = 0 := by
  obtain ⟨h1, h2, h3, h4, h5⟩ := chk_head m h
  exact chk_reply _ _ _ _ _ _ h1 h2 h3 h4 h5 hi (.inr ⟨rfl, hs⟩)

theorem answerM_eq (m : Msg) (id : Int) (s : ByteArray) (h : chk m = 0) (hk : isRep m.kind = false) (hi : isId id = true) (hs : s.size ≤ 255) : answerM m id s = (replied m id 6 s, 0) := by
  have h1 := chk_replied m id s h hi hs
  have h2 : reqE m = 0 := by simp [reqE, h, hk]
  rw [answerM, if_neg (not_not_intro h2), rightM]
  exact if_pos h1
theorem refuseM_eq (m : Msg) (id r : Int) (h : chk m = 0) (hk : isRep m.kind = false) (hi : isId id = true) (h0 : 0 ≤ r) (h1 : r ≤ 255) : refuseM m id r = (replied m id 7 (bytesB r 1), 0) := by
  have h3 := chk_refused m id (bytesB r 1) h hi (bytesB_size r 1)
  have h2 : reqE m = 0 := by simp [reqE, h, hk]
  rw [refuseM, if_neg (not_not_intro h2), if_neg (by omega), rightM]
  exact if_pos h3

theorem lbl_size (s : ByteArray) (h : lblE s = 0) : s.size ≤ 32 := by grind [lblE]

theorem shown_size (d : Dev) (p : Int) (h : chkD d = 0) : (shownD d p).1.size ≤ 255 := by
  have h1 : d.lb.size ≤ 32 := lbl_size _ (by grind [chkD])
  have z1 := bytesB_size d.ft 2
  have z2 := bytesB_size d.ad 2
  have z3 := bytesB_size d.hr 4
  have z4 := bytesB_size (if d.idf then 1 else 0) 1
  have z5 : listB.size = 12 := by decide
  have z6 : (⟨#[]⟩ : ByteArray).size = 0 := rfl
  unfold shownD flagB
  repeat' split
  all_goals simp_all [ByteArray.size_append]
  all_goals omega

theorem shown_reason (d : Dev) (p : Int) : (shownD d p).2 = -1 ∨ (0 ≤ (shownD d p).2 ∧ (shownD d p).2 ≤ 1) := by
  unfold shownD
  repeat' split
  all_goals simp

theorem put_reason (d : Dev) (p : Int) (s : ByteArray) : (putD d p s).2 = -1 ∨ (0 ≤ (putD d p s).2 ∧ (putD d p s).2 ≤ 3) := by
  unfold putD
  repeat' split
  all_goals simp

theorem put_id (d : Dev) (p : Int) (s : ByteArray) : (putD d p s).1.id = d.id := by
  unfold putD
  repeat' split
  all_goals rfl

theorem isId_of_chk (d : Dev) (h : chkD d = 0) : isId d.id = true := by grind [chkD, bodyBad]

/-- What receiving leaves. -/
def RecvPost (r : Dev × Msg × Bool) (b : Nat) (w : World) (e : Ending) (w' : World) : Prop := e = .returned (.tuple #[msgV r.2.1, .bool r.2.2]) ∧ DevAt w' b r.1 ∧ Upd b w w'

theorem range_ok (dst src seq par : Int) (dat : ByteArray) (w : World) (hm : Hid (chk ⟨dst, src, seq, 1, par, dat⟩ = 0)) :
    Calls Tryz.prog 157 #[.agg #[.int .u64 dst, .int .u64 src, .int .i64 seq, .int .i64 1, .int .i64 par, .string dat]] w
      fun e w' => ∃ l h, e = .returned (.tuple #[.int .u64 l, .int .u64 h, .int .i64 0]) ∧ Hid (lowM ⟨dst, src, seq, 1, par, dat⟩ = l ∧ highM ⟨dst, src, seq, 1, par, dat⟩ = h) ∧ Below w.heap.size w w' := by
  refine (range_any dst src seq 1 par dat w).mono ?_
  rintro e w' ⟨l, h, n, rfl, hr, hb⟩
  have hr := hr.out
  rw [rangeM, if_neg (not_not_intro hm.out), if_neg (by simp)] at hr
  simp only [Prod.mk.injEq] at hr
  obtain ⟨h1, h2, rfl⟩ := hr
  exact ⟨l, h, rfl, ⟨h1, h2⟩, hb⟩

theorem answer_ok (dst src seq kind par id : Int) (dat s : ByteArray) (w : World) (hm : Hid (chk ⟨dst, src, seq, kind, par, dat⟩ = 0)) (hk : isRep kind = false) (hi : Hid (isId id = true)) (hs : s.size ≤ 255) :
    Calls Tryz.prog 158 #[.agg #[.int .u64 dst, .int .u64 src, .int .i64 seq, .int .i64 kind, .int .i64 par, .string dat], .int .u64 id, .string s] w
      fun e w' => e = .returned (.tuple #[.agg #[.int .u64 src, .int .u64 id, .int .i64 seq, .int .i64 6, .int .i64 par, .string s], .int .i64 0]) ∧ Below w.heap.size w w' := by
  refine (answer_any dst src seq kind par id dat s w).mono ?_
  rintro e w' ⟨m, n, rfl, ha, hb⟩
  have ha := ha.out
  rw [answerM_eq ⟨dst, src, seq, kind, par, dat⟩ id s hm.out hk hi.out hs] at ha
  simp only [Prod.mk.injEq] at ha
  obtain ⟨rfl, rfl⟩ := ha
  exact ⟨rfl, hb⟩

theorem refuse_ok (dst src seq kind par id r : Int) (dat : ByteArray) (w : World) (hm : Hid (chk ⟨dst, src, seq, kind, par, dat⟩ = 0)) (hk : isRep kind = false) (hi : Hid (isId id = true)) (h0 : 0 ≤ r) (h1 : r ≤ 255) :
    Calls Tryz.prog 162 #[.agg #[.int .u64 dst, .int .u64 src, .int .i64 seq, .int .i64 kind, .int .i64 par, .string dat], .int .u64 id, .int .i64 r] w
      fun e w' => e = .returned (.tuple #[.agg #[.int .u64 src, .int .u64 id, .int .i64 seq, .int .i64 7, .int .i64 par, .string (bytesB r 1)], .int .i64 0]) ∧ Below w.heap.size w w' := by
  refine (refuse_any dst src seq kind par id r dat w).mono ?_
  rintro e w' ⟨m, n, rfl, ha, hb⟩
  have ha := ha.out
  rw [refuseM_eq ⟨dst, src, seq, kind, par, dat⟩ id r hm.out hk hi.out h0 h1] at ha
  simp only [Prod.mk.injEq] at ha
  obtain ⟨rfl, rfl⟩ := ha
  exact ⟨rfl, hb⟩

end Go.Proofs.YtpkhcehddfmhpaaGreat
