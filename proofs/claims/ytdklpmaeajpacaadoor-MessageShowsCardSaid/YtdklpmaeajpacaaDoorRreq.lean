/-
  The contracts of what the reference answers and seeks.
-/
import Derived.Test.YtdklpmaeajpacaaDoorRep
import Derived.Test.YtdklpmaeajpacaaDoorMade
import Derived.Test.YtdklpmaeajpacaaDoorFar
namespace Go.Proofs.YtdklpmaeajpacaaDoor
open Go.RowKit

set_option maxHeartbeats 1000000 in
set_option maxRecDepth 100000 in
theorem refrequest_any (dst src seq kind par : Int) (dat : ByteArray) (w : World) :
    Calls Tryd.prog 69 #[.agg #[.int .u64 dst, .int .u64 src, .int .i64 seq, .int .i64 kind, .int .i64 par, .string dat]] w fun e w' => e = .returned (.int .i64 (reqE ⟨dst, src, seq, kind, par, dat⟩)) ∧ Below w.heap.size w w' := by
  obtain ⟨b1, h1⟩ : ∃ b, (kind == 6) = b := ⟨_, rfl⟩
  obtain ⟨b2, h2⟩ : ∃ b, (kind == 7) = b := ⟨_, rfl⟩
  go_enter Tryd.func69, Tryd.ntmps69
  go_wp2_with (first | (go_at_call 17; refine (refchk_any _ _ _ _ _ _ _).mono ?_; rintro e w1 ⟨rfl, hb⟩; obtain ⟨hc, hf, hT1, hT2, hT3, hT4, hz⟩ := bfacts (n := w.heap.size + 1) hb (by first | (simp; done) | (simp; omega) | omega)))
  all_goals go_ret
  all_goals refine ⟨ret_int ?_, ?_⟩
  all_goals first
    | (repeat' (first | (with_reducible exact Below.refl _ _) | (with_reducible assumption) | (with_reducible refine below_drewN ?_ _) | (with_reducible refine Below.drew ?_) | (with_reducible refine Below.setCell ?_ ?_ _) | (with_reducible refine Below.alloc ?_ ?_ _) | (with_reducible refine below_after ?_ ?_ (by assumption)) | (show _ ≤ _; first | omega | (simp; done) | (simp; omega))))
    | skip
  all_goals clear hb hc hf hT1 hT2 hT3 hT4
  all_goals grind [reqE, isRep]

set_option maxHeartbeats 1000000 in
set_option maxRecDepth 100000 in
theorem refreply_any (dst src seq kind par id k : Int) (dat s : ByteArray) (w : World) :
    Calls Tryd.prog 76 #[.agg #[.int .u64 dst, .int .u64 src, .int .i64 seq, .int .i64 kind, .int .i64 par, .string dat], .int .u64 id, .int .i64 k, .string s] w fun e w' => ∃ m n, e = .returned (.tuple #[msgV m, .int .i64 n]) ∧ Hid (rightM ⟨src, id, seq, k, par, s⟩ = (m, n)) ∧ Below w.heap.size w w' := by
  go_enter Tryd.func76, Tryd.ntmps76
  go_wp2_with (first | (go_at_call 89; refine (replied_any _ _ _ _ _ _ _ _ _ _).mono ?_; rintro e w1 ⟨rfl, hb⟩; have r1 : RowAt w1 (w.heap.size + 1) 24 #[.int .u64 0, .int .u64 0, .int .i64 0, .int .i64 0, .int .i64 0, .string ⟨#[]⟩] := (by (repeat' (first | (with_reducible assumption) | (with_reducible refine RowAt.drewN ?_ _) | (with_reducible refine RowAt.drew ?_) | (with_reducible apply RowAt.six) | (with_reducible apply RowAt.seven) | ((with_reducible refine RowAt.mk ?_ ?_); (focus (first | rfl | (simp; done))); rfl) | (with_reducible refine RowAt.alloc ?_ _) | (with_reducible refine RowAt.far ?_ ?_) | (with_reducible refine RowAt.run ?_ (by assumption)) | (with_reducible refine RowAt.below ?_ (by assumption) ?_) | (with_reducible refine RowAt.upd ?_ (by assumption) ?_) | (show _ < _; first | omega | (simp; done) | (simp; omega)) | (show ¬ _ = _; first | omega | (simp; done) | (simp; omega)) | exact rfl))); obtain ⟨r1a, r1b, r1c, r1d, r1e, r1f⟩ := row_facts r1) | (go_at_call 17; refine (refchk_any _ _ _ _ _ _ _).mono ?_; rintro e w2 ⟨rfl, hb2⟩; have r2 : RowAt w2 (w.heap.size + 1) 24 #[.int .u64 0, .int .u64 0, .int .i64 0, .int .i64 0, .int .i64 0, .string ⟨#[]⟩] := (by (repeat' (first | (with_reducible assumption) | (with_reducible refine RowAt.drewN ?_ _) | (with_reducible refine RowAt.drew ?_) | (with_reducible apply RowAt.six) | (with_reducible apply RowAt.seven) | ((with_reducible refine RowAt.mk ?_ ?_); (focus (first | rfl | (simp; done))); rfl) | (with_reducible refine RowAt.alloc ?_ _) | (with_reducible refine RowAt.far ?_ ?_) | (with_reducible refine RowAt.run ?_ (by assumption)) | (with_reducible refine RowAt.below ?_ (by assumption) ?_) | (with_reducible refine RowAt.upd ?_ (by assumption) ?_) | (show _ < _; first | omega | (simp; done) | (simp; omega)) | (show ¬ _ = _; first | omega | (simp; done) | (simp; omega)) | exact rfl))); obtain ⟨r2a, r2b, r2c, r2d, r2e, r2f⟩ := row_facts r2; have r3 : RowAt w2 w1.heap.size 24 #[.int .u64 src, .int .u64 id, .int .i64 seq, .int .i64 k, .int .i64 par, .string s] := (by (repeat' (first | (with_reducible assumption) | (with_reducible refine RowAt.drewN ?_ _) | (with_reducible refine RowAt.drew ?_) | (with_reducible apply RowAt.six) | (with_reducible apply RowAt.seven) | ((with_reducible refine RowAt.mk ?_ ?_); (focus (first | rfl | (simp; done))); rfl) | (with_reducible refine RowAt.alloc ?_ _) | (with_reducible refine RowAt.far ?_ ?_) | (with_reducible refine RowAt.run ?_ (by assumption)) | (with_reducible refine RowAt.below ?_ (by assumption) ?_) | (with_reducible refine RowAt.upd ?_ (by assumption) ?_) | (show _ < _; first | omega | (simp; done) | (simp; omega)) | (show ¬ _ = _; first | omega | (simp; done) | (simp; omega)) | exact rfl))); obtain ⟨r3a, r3b, r3c, r3d, r3e, r3f⟩ := row_facts r3))
  · rename (chk _ != 0) = true => hq
    have h : chk ⟨src, id, seq, k, par, s⟩ ≠ 0 := ne_of_bne hq
    refine bodyPost_ret (v := .tuple #[msgV zeroM, .int .i64 (chk ⟨src, id, seq, k, par, s⟩)]) ?_ rfl ⟨_, _, rfl, ?_, ?_⟩
    · simp [results, Tryd.results76, go_sem, zeroM, r2a]
    · simp [Hid, rightM, h]
    · (repeat' (first | (with_reducible exact Below.refl _ _) | (with_reducible assumption) | (with_reducible refine below_run ?_ (by assumption)) | (with_reducible refine below_of_upd ?_ (by assumption) ?_) | (with_reducible refine below_drewN ?_ _) | (with_reducible refine Below.drew ?_) | (with_reducible refine below_seven ?_ ?_) | (with_reducible refine below_six ?_ ?_) | (with_reducible refine below_one ?_ ?_) | (with_reducible refine Below.alloc ?_ ?_ _) | (with_reducible refine below_after ?_ ?_ (by assumption)) | (show _ ≤ _; first | omega | (simp; done) | (simp; omega))))
  · rename (chk _ != 0) = false => hq
    have h : chk ⟨src, id, seq, k, par, s⟩ = 0 := eq_of_bne hq
    refine bodyPost_ret (v := .tuple #[msgV ⟨src, id, seq, k, par, s⟩, .int .i64 0]) ?_ rfl ⟨_, _, rfl, ?_, ?_⟩
    · simp [results, Tryd.results76, go_sem, r2a]
    · simp [Hid, rightM, h]
    · (repeat' (first | (with_reducible exact Below.refl _ _) | (with_reducible assumption) | (with_reducible refine below_run ?_ (by assumption)) | (with_reducible refine below_of_upd ?_ (by assumption) ?_) | (with_reducible refine below_drewN ?_ _) | (with_reducible refine Below.drew ?_) | (with_reducible refine below_seven ?_ ?_) | (with_reducible refine below_six ?_ ?_) | (with_reducible refine below_one ?_ ?_) | (with_reducible refine Below.alloc ?_ ?_ _) | (with_reducible refine below_after ?_ ?_ (by assumption)) | (show _ ≤ _; first | omega | (simp; done) | (simp; omega))))

set_option maxHeartbeats 1000000 in
set_option maxRecDepth 100000 in
theorem refanswer_any (dst src seq kind par id : Int) (dat s : ByteArray) (w : World) :
    Calls Tryd.prog 38 #[.agg #[.int .u64 dst, .int .u64 src, .int .i64 seq, .int .i64 kind, .int .i64 par, .string dat], .int .u64 id, .string s] w
      fun e w' => ∃ m n, e = .returned (.tuple #[msgV m, .int .i64 n]) ∧ Hid (answerM ⟨dst, src, seq, kind, par, dat⟩ id s = (m, n)) ∧ Below w.heap.size w w' := by
  go_enter Tryd.func38, Tryd.ntmps38
  go_wp2_with (first | (go_at_call 69; refine (refrequest_any _ _ _ _ _ _ _).mono ?_; rintro e w1 ⟨rfl, hb⟩; have r0 : RowAt w1 w.heap.size 24 #[.int .u64 dst, .int .u64 src, .int .i64 seq, .int .i64 kind, .int .i64 par, .string dat] := (by (repeat' (first | (with_reducible assumption) | (with_reducible refine RowAt.drewN ?_ _) | (with_reducible refine RowAt.drew ?_) | (with_reducible apply RowAt.six) | (with_reducible apply RowAt.seven) | ((with_reducible refine RowAt.mk ?_ ?_); (focus (first | rfl | (simp; done))); rfl) | (with_reducible refine RowAt.alloc ?_ _) | (with_reducible refine RowAt.far ?_ ?_) | (with_reducible refine RowAt.run ?_ (by assumption)) | (with_reducible refine RowAt.below ?_ (by assumption) ?_) | (with_reducible refine RowAt.upd ?_ (by assumption) ?_) | (show _ < _; first | omega | (simp; done) | (simp; omega)) | (show ¬ _ = _; first | omega | (simp; done) | (simp; omega)) | exact rfl))); obtain ⟨r0a, r0b, r0c, r0d, r0e, r0f⟩ := row_facts r0; have r1 : RowAt w1 (w.heap.size + 1) 24 #[.int .u64 0, .int .u64 0, .int .i64 0, .int .i64 0, .int .i64 0, .string ⟨#[]⟩] := (by (repeat' (first | (with_reducible assumption) | (with_reducible refine RowAt.drewN ?_ _) | (with_reducible refine RowAt.drew ?_) | (with_reducible apply RowAt.six) | (with_reducible apply RowAt.seven) | ((with_reducible refine RowAt.mk ?_ ?_); (focus (first | rfl | (simp; done))); rfl) | (with_reducible refine RowAt.alloc ?_ _) | (with_reducible refine RowAt.far ?_ ?_) | (with_reducible refine RowAt.run ?_ (by assumption)) | (with_reducible refine RowAt.below ?_ (by assumption) ?_) | (with_reducible refine RowAt.upd ?_ (by assumption) ?_) | (show _ < _; first | omega | (simp; done) | (simp; omega)) | (show ¬ _ = _; first | omega | (simp; done) | (simp; omega)) | exact rfl))); obtain ⟨r1a, r1b, r1c, r1d, r1e, r1f⟩ := row_facts r1) | (go_at_call 76; refine (refreply_any _ _ _ _ _ _ _ _ _ _).mono ?_; rintro e w2 ⟨m, n, rfl, hm, hb2⟩; have r2 : RowAt w2 (w.heap.size + 1) 24 #[.int .u64 0, .int .u64 0, .int .i64 0, .int .i64 0, .int .i64 0, .string ⟨#[]⟩] := (by (repeat' (first | (with_reducible assumption) | (with_reducible refine RowAt.drewN ?_ _) | (with_reducible refine RowAt.drew ?_) | (with_reducible apply RowAt.six) | (with_reducible apply RowAt.seven) | ((with_reducible refine RowAt.mk ?_ ?_); (focus (first | rfl | (simp; done))); rfl) | (with_reducible refine RowAt.alloc ?_ _) | (with_reducible refine RowAt.far ?_ ?_) | (with_reducible refine RowAt.run ?_ (by assumption)) | (with_reducible refine RowAt.below ?_ (by assumption) ?_) | (with_reducible refine RowAt.upd ?_ (by assumption) ?_) | (show _ < _; first | omega | (simp; done) | (simp; omega)) | (show ¬ _ = _; first | omega | (simp; done) | (simp; omega)) | exact rfl))); obtain ⟨r2a, r2b, r2c, r2d, r2e, r2f⟩ := row_facts r2))
  · rename (reqE _ != 0) = true => hq
    have h : reqE ⟨dst, src, seq, kind, par, dat⟩ ≠ 0 := ne_of_bne hq
    refine bodyPost_ret (v := .tuple #[msgV zeroM, .int .i64 (reqE ⟨dst, src, seq, kind, par, dat⟩)]) ?_ rfl ⟨_, _, rfl, ?_, ?_⟩
    · simp [results, Tryd.results38, go_sem, zeroM, r1a]
    · simp [Hid, answerM, h]
    · (repeat' (first | (with_reducible exact Below.refl _ _) | (with_reducible assumption) | (with_reducible refine below_run ?_ (by assumption)) | (with_reducible refine below_of_upd ?_ (by assumption) ?_) | (with_reducible refine below_drewN ?_ _) | (with_reducible refine Below.drew ?_) | (with_reducible refine below_seven ?_ ?_) | (with_reducible refine below_six ?_ ?_) | (with_reducible refine below_one ?_ ?_) | (with_reducible refine Below.alloc ?_ ?_ _) | (with_reducible refine below_after ?_ ?_ (by assumption)) | (show _ ≤ _; first | omega | (simp; done) | (simp; omega))))
  · rename (reqE _ != 0) = false => hq
    have h : reqE ⟨dst, src, seq, kind, par, dat⟩ = 0 := eq_of_bne hq
    refine bodyPost_ret (v := .tuple #[msgV m, .int .i64 n]) ?_ rfl ⟨_, _, rfl, ?_, ?_⟩
    · simp [results, Tryd.results38, go_sem, r2a]
    · simp [Hid, answerM, h, hm.out]
    · (repeat' (first | (with_reducible exact Below.refl _ _) | (with_reducible assumption) | (with_reducible refine below_run ?_ (by assumption)) | (with_reducible refine below_of_upd ?_ (by assumption) ?_) | (with_reducible refine below_drewN ?_ _) | (with_reducible refine Below.drew ?_) | (with_reducible refine below_seven ?_ ?_) | (with_reducible refine below_six ?_ ?_) | (with_reducible refine below_one ?_ ?_) | (with_reducible refine Below.alloc ?_ ?_ _) | (with_reducible refine below_after ?_ ?_ (by assumption)) | (show _ ≤ _; first | omega | (simp; done) | (simp; omega))))

set_option maxHeartbeats 1000000 in
set_option maxRecDepth 100000 in
theorem refrefuse_any (dst src seq kind par id r : Int) (dat : ByteArray) (w : World) :
    Calls Tryd.prog 40 #[.agg #[.int .u64 dst, .int .u64 src, .int .i64 seq, .int .i64 kind, .int .i64 par, .string dat], .int .u64 id, .int .i64 r] w
      fun e w' => ∃ m n, e = .returned (.tuple #[msgV m, .int .i64 n]) ∧ Hid (refuseM ⟨dst, src, seq, kind, par, dat⟩ id r = (m, n)) ∧ Below w.heap.size w w' := by
  go_enter Tryd.func40, Tryd.ntmps40
  go_wp2_with (first | (go_at_call 69; refine (refrequest_any _ _ _ _ _ _ _).mono ?_; rintro e w1 ⟨rfl, hb⟩; have r0 : RowAt w1 w.heap.size 24 #[.int .u64 dst, .int .u64 src, .int .i64 seq, .int .i64 kind, .int .i64 par, .string dat] := (by (repeat' (first | (with_reducible assumption) | (with_reducible refine RowAt.drewN ?_ _) | (with_reducible refine RowAt.drew ?_) | (with_reducible apply RowAt.six) | (with_reducible apply RowAt.seven) | ((with_reducible refine RowAt.mk ?_ ?_); (focus (first | rfl | (simp; done))); rfl) | (with_reducible refine RowAt.alloc ?_ _) | (with_reducible refine RowAt.far ?_ ?_) | (with_reducible refine RowAt.run ?_ (by assumption)) | (with_reducible refine RowAt.below ?_ (by assumption) ?_) | (with_reducible refine RowAt.upd ?_ (by assumption) ?_) | (show _ < _; first | omega | (simp; done) | (simp; omega)) | (show ¬ _ = _; first | omega | (simp; done) | (simp; omega)) | exact rfl))); obtain ⟨r0a, r0b, r0c, r0d, r0e, r0f⟩ := row_facts r0; have r1 : RowAt w1 (w.heap.size + 1) 24 #[.int .u64 0, .int .u64 0, .int .i64 0, .int .i64 0, .int .i64 0, .string ⟨#[]⟩] := (by (repeat' (first | (with_reducible assumption) | (with_reducible refine RowAt.drewN ?_ _) | (with_reducible refine RowAt.drew ?_) | (with_reducible apply RowAt.six) | (with_reducible apply RowAt.seven) | ((with_reducible refine RowAt.mk ?_ ?_); (focus (first | rfl | (simp; done))); rfl) | (with_reducible refine RowAt.alloc ?_ _) | (with_reducible refine RowAt.far ?_ ?_) | (with_reducible refine RowAt.run ?_ (by assumption)) | (with_reducible refine RowAt.below ?_ (by assumption) ?_) | (with_reducible refine RowAt.upd ?_ (by assumption) ?_) | (show _ < _; first | omega | (simp; done) | (simp; omega)) | (show ¬ _ = _; first | omega | (simp; done) | (simp; omega)) | exact rfl))); obtain ⟨r1a, r1b, r1c, r1d, r1e, r1f⟩ := row_facts r1))
  · rename (reqE _ != 0) = true => hq
    have h : reqE ⟨dst, src, seq, kind, par, dat⟩ ≠ 0 := ne_of_bne hq
    refine bodyPost_ret (v := .tuple #[msgV zeroM, .int .i64 (reqE ⟨dst, src, seq, kind, par, dat⟩)]) ?_ rfl ⟨_, _, rfl, ?_, ?_⟩
    · simp [results, Tryd.results40, go_sem, zeroM, r1a]
    · simp [Hid, refuseM, h]
    · (repeat' (first | (with_reducible exact Below.refl _ _) | (with_reducible assumption) | (with_reducible refine below_run ?_ (by assumption)) | (with_reducible refine below_of_upd ?_ (by assumption) ?_) | (with_reducible refine below_drewN ?_ _) | (with_reducible refine Below.drew ?_) | (with_reducible refine below_seven ?_ ?_) | (with_reducible refine below_six ?_ ?_) | (with_reducible refine below_one ?_ ?_) | (with_reducible refine Below.alloc ?_ ?_ _) | (with_reducible refine below_after ?_ ?_ (by assumption)) | (show _ ≤ _; first | omega | (simp; done) | (simp; omega))))
  · rename (reqE _ != 0) = false => hq
    have h : reqE ⟨dst, src, seq, kind, par, dat⟩ = 0 := eq_of_bne hq
    have h1 : r < 0 ∨ 255 < r := by assumption
    refine bodyPost_ret (v := .tuple #[msgV zeroM, .int .i64 2]) ?_ rfl ⟨_, _, rfl, ?_, ?_⟩
    · simp [results, Tryd.results40, go_sem, zeroM, r1a]
    · simp [Hid, refuseM, h, h1]
    · (repeat' (first | (with_reducible exact Below.refl _ _) | (with_reducible assumption) | (with_reducible refine below_run ?_ (by assumption)) | (with_reducible refine below_of_upd ?_ (by assumption) ?_) | (with_reducible refine below_drewN ?_ _) | (with_reducible refine Below.drew ?_) | (with_reducible refine below_seven ?_ ?_) | (with_reducible refine below_six ?_ ?_) | (with_reducible refine below_one ?_ ?_) | (with_reducible refine Below.alloc ?_ ?_ _) | (with_reducible refine below_after ?_ ?_ (by assumption)) | (show _ ≤ _; first | omega | (simp; done) | (simp; omega))))
  · rename (reqE _ != 0) = false => hq
    have h : reqE ⟨dst, src, seq, kind, par, dat⟩ = 0 := eq_of_bne hq
    have h0 : 0 ≤ r := by omega
    have h1 : r ≤ 255 := by omega
    have H := Lib.hid h
    clear h hq
    have hw : IntKind.u64.wrap r = r := IntWalk.u64_in r (by omega)
    go_region_held3 (fun w' => w'.cell? ⟨w.heap.size, 0, none⟩ = some (.int .u64 dst) ∧ w'.cell? ⟨w.heap.size, 1, none⟩ = some (.int .u64 src) ∧ w'.cell? ⟨w.heap.size, 2, none⟩ = some (.int .i64 seq) ∧ w'.cell? ⟨w.heap.size, 3, none⟩ = some (.int .i64 kind) ∧ w'.cell? ⟨w.heap.size, 4, none⟩ = some (.int .i64 par) ∧ w'.cell? ⟨w.heap.size, 5, none⟩ = some (.string dat)) (go_keep)
      (first
        | (go_at_call 72; refine (mbytes_any _ _ _ (by omega) (by omega) (by omega) (by omega)).mono ?_; rintro e w3 ⟨rfl, hb⟩; have r3 : RowAt w3 w.heap.size 24 #[.int .u64 dst, .int .u64 src, .int .i64 seq, .int .i64 kind, .int .i64 par, .string dat] := (by (repeat' (first | (with_reducible assumption) | (with_reducible refine RowAt.drewN ?_ _) | (with_reducible refine RowAt.drew ?_) | (with_reducible apply RowAt.six) | (with_reducible apply RowAt.seven) | ((with_reducible refine RowAt.mk ?_ ?_); (focus (first | rfl | (simp; done))); rfl) | (with_reducible refine RowAt.alloc ?_ _) | (with_reducible refine RowAt.far ?_ ?_) | (with_reducible refine RowAt.run ?_ (by assumption)) | (with_reducible refine RowAt.below ?_ (by assumption) ?_) | (with_reducible refine RowAt.upd ?_ (by assumption) ?_) | (show _ < _; first | omega | (simp; done) | (simp; omega)) | (show ¬ _ = _; first | omega | (simp; done) | (simp; omega)) | exact rfl))); obtain ⟨r3a, r3b, r3c, r3d, r3e, r3f⟩ := row_facts r3; have r4 : RowAt w3 (w.heap.size + 1) 24 #[.int .u64 0, .int .u64 0, .int .i64 0, .int .i64 0, .int .i64 0, .string ⟨#[]⟩] := (by (repeat' (first | (with_reducible assumption) | (with_reducible refine RowAt.drewN ?_ _) | (with_reducible refine RowAt.drew ?_) | (with_reducible apply RowAt.six) | (with_reducible apply RowAt.seven) | ((with_reducible refine RowAt.mk ?_ ?_); (focus (first | rfl | (simp; done))); rfl) | (with_reducible refine RowAt.alloc ?_ _) | (with_reducible refine RowAt.far ?_ ?_) | (with_reducible refine RowAt.run ?_ (by assumption)) | (with_reducible refine RowAt.below ?_ (by assumption) ?_) | (with_reducible refine RowAt.upd ?_ (by assumption) ?_) | (show _ < _; first | omega | (simp; done) | (simp; omega)) | (show ¬ _ = _; first | omega | (simp; done) | (simp; omega)) | exact rfl))); obtain ⟨r4a, r4b, r4c, r4d, r4e, r4f⟩ := row_facts r4)
        | (go_at_call 76; refine (refreply_any _ _ _ _ _ _ _ _ _ _).mono ?_; rintro e w4 ⟨m, n, rfl, hm, hb4⟩; have r5 : RowAt w4 (w.heap.size + 1) 24 #[.int .u64 0, .int .u64 0, .int .i64 0, .int .i64 0, .int .i64 0, .string ⟨#[]⟩] := (by (repeat' (first | (with_reducible assumption) | (with_reducible refine RowAt.drewN ?_ _) | (with_reducible refine RowAt.drew ?_) | (with_reducible apply RowAt.six) | (with_reducible apply RowAt.seven) | ((with_reducible refine RowAt.mk ?_ ?_); (focus (first | rfl | (simp; done))); rfl) | (with_reducible refine RowAt.alloc ?_ _) | (with_reducible refine RowAt.far ?_ ?_) | (with_reducible refine RowAt.run ?_ (by assumption)) | (with_reducible refine RowAt.below ?_ (by assumption) ?_) | (with_reducible refine RowAt.upd ?_ (by assumption) ?_) | (show _ < _; first | omega | (simp; done) | (simp; omega)) | (show ¬ _ = _; first | omega | (simp; done) | (simp; omega)) | exact rfl))); obtain ⟨r5a, r5b, r5c, r5d, r5e, r5f⟩ := row_facts r5; have r6 : RowAt w4 w.heap.size 24 #[.int .u64 dst, .int .u64 src, .int .i64 seq, .int .i64 kind, .int .i64 par, .string dat] := (by (repeat' (first | (with_reducible assumption) | (with_reducible refine RowAt.drewN ?_ _) | (with_reducible refine RowAt.drew ?_) | (with_reducible apply RowAt.six) | (with_reducible apply RowAt.seven) | ((with_reducible refine RowAt.mk ?_ ?_); (focus (first | rfl | (simp; done))); rfl) | (with_reducible refine RowAt.alloc ?_ _) | (with_reducible refine RowAt.far ?_ ?_) | (with_reducible refine RowAt.run ?_ (by assumption)) | (with_reducible refine RowAt.below ?_ (by assumption) ?_) | (with_reducible refine RowAt.upd ?_ (by assumption) ?_) | (show _ < _; first | omega | (simp; done) | (simp; omega)) | (show ¬ _ = _; first | omega | (simp; done) | (simp; omega)) | exact rfl))); obtain ⟨r6a, r6b, r6c, r6d, r6e, r6f⟩ := row_facts r6))
    go_wp2
    refine bodyPost_ret (v := .tuple #[msgV m, .int .i64 n]) ?_ rfl ⟨_, _, rfl, ?_, ?_⟩
    · simp [results, Tryd.results40, go_sem, r5a]
    · show refuseM ⟨dst, src, seq, kind, par, dat⟩ id r = _
      rw [refuseM, if_neg (not_not_intro H.out), if_neg (by omega)]
      exact hm
    · (repeat' (first | (with_reducible exact Below.refl _ _) | (with_reducible assumption) | (with_reducible refine below_run ?_ (by assumption)) | (with_reducible refine below_of_upd ?_ (by assumption) ?_) | (with_reducible refine below_drewN ?_ _) | (with_reducible refine Below.drew ?_) | (with_reducible refine below_seven ?_ ?_) | (with_reducible refine below_six ?_ ?_) | (with_reducible refine below_one ?_ ?_) | (with_reducible refine Below.alloc ?_ ?_ _) | (with_reducible refine below_after ?_ ?_ (by assumption)) | (show _ ≤ _; first | omega | (simp; done) | (simp; omega))))
  · rename (reqE _ != 0) = false => hq
    have h : reqE ⟨dst, src, seq, kind, par, dat⟩ = 0 := eq_of_bne hq
    have h1 : r < 0 ∨ 255 < r := .inl (by assumption)
    refine bodyPost_ret (v := .tuple #[msgV zeroM, .int .i64 2]) ?_ rfl ⟨_, _, rfl, ?_, ?_⟩
    · simp [results, Tryd.results40, go_sem, zeroM, r1a]
    · simp [Hid, refuseM, h, h1]
    · (repeat' (first | (with_reducible exact Below.refl _ _) | (with_reducible assumption) | (with_reducible refine below_run ?_ (by assumption)) | (with_reducible refine below_of_upd ?_ (by assumption) ?_) | (with_reducible refine below_drewN ?_ _) | (with_reducible refine Below.drew ?_) | (with_reducible refine below_seven ?_ ?_) | (with_reducible refine below_six ?_ ?_) | (with_reducible refine below_one ?_ ?_) | (with_reducible refine Below.alloc ?_ ?_ _) | (with_reducible refine below_after ?_ ?_ (by assumption)) | (show _ ≤ _; first | omega | (simp; done) | (simp; omega))))

set_option maxHeartbeats 1000000 in
set_option maxRecDepth 100000 in
theorem refrange_any (dst src seq kind par : Int) (dat : ByteArray) (w : World) :
    Calls Tryd.prog 41 #[.agg #[.int .u64 dst, .int .u64 src, .int .i64 seq, .int .i64 kind, .int .i64 par, .string dat]] w fun e w' => ∃ l h n, e = .returned (.tuple #[.int .u64 l, .int .u64 h, .int .i64 n]) ∧ Hid (rangeM ⟨dst, src, seq, kind, par, dat⟩ = (l, h, n)) ∧ Below w.heap.size w w' := by
  have HK := Lib.hid (chk_size ⟨dst, src, seq, kind, par, dat⟩)
  go_enter Tryd.func41, Tryd.ntmps41
  go_wp2_with (first | (go_at_call 17; refine (refchk_any _ _ _ _ _ _ _).mono ?_; rintro e w1 ⟨rfl, hb⟩; have r1 : RowAt w1 w.heap.size 24 #[.int .u64 dst, .int .u64 src, .int .i64 seq, .int .i64 kind, .int .i64 par, .string dat] := (by (repeat' (first | (with_reducible assumption) | (with_reducible refine RowAt.drewN ?_ _) | (with_reducible refine RowAt.drew ?_) | (with_reducible apply RowAt.six) | (with_reducible apply RowAt.seven) | ((with_reducible refine RowAt.mk ?_ ?_); (focus (first | rfl | (simp; done))); rfl) | (with_reducible refine RowAt.alloc ?_ _) | (with_reducible refine RowAt.far ?_ ?_) | (with_reducible refine RowAt.run ?_ (by assumption)) | (with_reducible refine RowAt.below ?_ (by assumption) ?_) | (with_reducible refine RowAt.upd ?_ (by assumption) ?_) | (show _ < _; first | omega | (simp; done) | (simp; omega)) | (show ¬ _ = _; first | omega | (simp; done) | (simp; omega)) | exact rfl))); obtain ⟨r1a, r1b, r1c, r1d, r1e, r1f⟩ := row_facts r1))
  · rename (chk _ != 0) = true => hq
    have h : chk ⟨dst, src, seq, kind, par, dat⟩ ≠ 0 := ne_of_bne hq
    go_ret3
    refine ⟨_, _, _, rfl, ?_, ?_⟩
    · simp [Hid, rangeM, h]
    · (repeat' (first | (with_reducible exact Below.refl _ _) | (with_reducible assumption) | (with_reducible refine below_run ?_ (by assumption)) | (with_reducible refine below_of_upd ?_ (by assumption) ?_) | (with_reducible refine below_drewN ?_ _) | (with_reducible refine Below.drew ?_) | (with_reducible refine below_seven ?_ ?_) | (with_reducible refine below_six ?_ ?_) | (with_reducible refine below_one ?_ ?_) | (with_reducible refine Below.alloc ?_ ?_ _) | (with_reducible refine below_after ?_ ?_ (by assumption)) | (show _ ≤ _; first | omega | (simp; done) | (simp; omega))))
  · rename (chk _ != 0) = false => hq
    have h : chk ⟨dst, src, seq, kind, par, dat⟩ = 0 := eq_of_bne hq
    have h1 : kind ≠ 1 := ne_of_bne (by assumption)
    go_ret3
    refine ⟨_, _, _, rfl, ?_, ?_⟩
    · simp [Hid, rangeM, h, h1]
    · (repeat' (first | (with_reducible exact Below.refl _ _) | (with_reducible assumption) | (with_reducible refine below_run ?_ (by assumption)) | (with_reducible refine below_of_upd ?_ (by assumption) ?_) | (with_reducible refine below_drewN ?_ _) | (with_reducible refine Below.drew ?_) | (with_reducible refine below_seven ?_ ?_) | (with_reducible refine below_six ?_ ?_) | (with_reducible refine below_one ?_ ?_) | (with_reducible refine Below.alloc ?_ ?_ _) | (with_reducible refine below_after ?_ ?_ (by assumption)) | (show _ ≤ _; first | omega | (simp; done) | (simp; omega))))
  · rename (chk _ != 0) = false => hq
    have h : chk ⟨dst, src, seq, kind, par, dat⟩ = 0 := eq_of_bne hq
    have h1 : kind = 1 := eq_of_bne (by assumption)
    have H := Lib.hid h
    have H1 := Lib.hid h1
    have HS := Lib.hid (HK.out h h1)
    clear h h1
    go_wp2_with (first | (go_at_call 77; refine (ends_any _ _ _ _ _ _ _ HS).mono ?_; rintro e w2 ⟨l, h, rfl, hlh, hb2⟩))
    go_ret3
    refine ⟨_, _, _, rfl, ?_, ?_⟩
    · show rangeM ⟨dst, src, seq, kind, par, dat⟩ = _
      rw [rangeM, if_neg (not_not_intro H.out), if_neg (not_not_intro H1.out), hlh.out.1, hlh.out.2]
    · (repeat' (first | (with_reducible exact Below.refl _ _) | (with_reducible assumption) | (with_reducible refine below_run ?_ (by assumption)) | (with_reducible refine below_of_upd ?_ (by assumption) ?_) | (with_reducible refine below_drewN ?_ _) | (with_reducible refine Below.drew ?_) | (with_reducible refine below_seven ?_ ?_) | (with_reducible refine below_six ?_ ?_) | (with_reducible refine below_one ?_ ?_) | (with_reducible refine Below.alloc ?_ ?_ _) | (with_reducible refine below_after ?_ ?_ (by assumption)) | (show _ ≤ _; first | omega | (simp; done) | (simp; omega))))

set_option maxHeartbeats 1000000 in
set_option maxRecDepth 100000 in
theorem refmatches_any (dst src seq kind par dst' src' seq' kind' par' : Int) (dat dat' : ByteArray) (w : World) :
    Calls Tryd.prog 25 #[.agg #[.int .u64 dst, .int .u64 src, .int .i64 seq, .int .i64 kind, .int .i64 par, .string dat], .agg #[.int .u64 dst', .int .u64 src', .int .i64 seq', .int .i64 kind', .int .i64 par', .string dat']] w
      fun e w' => e = .returned (.bool (matchesM ⟨dst, src, seq, kind, par, dat⟩ ⟨dst', src', seq', kind', par', dat'⟩)) ∧ Below w.heap.size w w' := by
  obtain ⟨b1, h1⟩ : ∃ b, (dst' == src) = b := ⟨_, rfl⟩
  obtain ⟨b2, h2⟩ : ∃ b, (seq' == seq) = b := ⟨_, rfl⟩
  obtain ⟨b3, h3⟩ : ∃ b, (par' == par) = b := ⟨_, rfl⟩
  obtain ⟨b4, h4⟩ : ∃ b, (dst == 281474976710655) = b := ⟨_, rfl⟩
  obtain ⟨b5, h5⟩ : ∃ b, (dst == src') = b := ⟨_, rfl⟩
  obtain ⟨b6, h6⟩ : ∃ b, (reqE ⟨dst, src, seq, kind, par, dat⟩ != 0) = b := ⟨_, rfl⟩
  obtain ⟨b7, h7⟩ : ∃ b, (chk ⟨dst', src', seq', kind', par', dat'⟩ != 0) = b := ⟨_, rfl⟩
  obtain ⟨b8, h8⟩ : ∃ b, (kind' != 6) = b := ⟨_, rfl⟩
  obtain ⟨b9, h9⟩ : ∃ b, (kind' != 7) = b := ⟨_, rfl⟩
  have hm : matchesM ⟨dst, src, seq, kind, par, dat⟩ ⟨dst', src', seq', kind', par', dat'⟩ = (!b6 && !b7 && !(b8 && b9) && b1 && b2 && b3 && (b4 || b5)) := by
    grind [matchesM, reqE, isRep]
  rw [hm]
  clear hm
  go_enter Tryd.func25, Tryd.ntmps25
  cases b6 <;> cases b7 <;> go_wp2_with (first | (go_at_call 69; refine (refrequest_any _ _ _ _ _ _ _).mono ?_; rintro e w1 ⟨rfl, hb⟩; have ra : RowAt w1 w.heap.size 24 #[.int .u64 dst, .int .u64 src, .int .i64 seq, .int .i64 kind, .int .i64 par, .string dat] := (by (repeat' (first | (with_reducible assumption) | (with_reducible refine RowAt.drewN ?_ _) | (with_reducible refine RowAt.drew ?_) | (with_reducible apply RowAt.six) | (with_reducible apply RowAt.seven) | ((with_reducible refine RowAt.mk ?_ ?_); (focus (first | rfl | (simp; done))); rfl) | (with_reducible refine RowAt.alloc ?_ _) | (with_reducible refine RowAt.far ?_ ?_) | (with_reducible refine RowAt.run ?_ (by assumption)) | (with_reducible refine RowAt.below ?_ (by assumption) ?_) | (with_reducible refine RowAt.upd ?_ (by assumption) ?_) | (show _ < _; first | omega | (simp; done) | (simp; omega)) | (show ¬ _ = _; first | omega | (simp; done) | (simp; omega)) | exact rfl))); obtain ⟨raa, rab, rac, rad, rae, raf⟩ := row_facts ra; have rb : RowAt w1 (w.heap.size + 1) 24 #[.int .u64 dst', .int .u64 src', .int .i64 seq', .int .i64 kind', .int .i64 par', .string dat'] := (by (repeat' (first | (with_reducible assumption) | (with_reducible refine RowAt.drewN ?_ _) | (with_reducible refine RowAt.drew ?_) | (with_reducible apply RowAt.six) | (with_reducible apply RowAt.seven) | ((with_reducible refine RowAt.mk ?_ ?_); (focus (first | rfl | (simp; done))); rfl) | (with_reducible refine RowAt.alloc ?_ _) | (with_reducible refine RowAt.far ?_ ?_) | (with_reducible refine RowAt.run ?_ (by assumption)) | (with_reducible refine RowAt.below ?_ (by assumption) ?_) | (with_reducible refine RowAt.upd ?_ (by assumption) ?_) | (show _ < _; first | omega | (simp; done) | (simp; omega)) | (show ¬ _ = _; first | omega | (simp; done) | (simp; omega)) | exact rfl))); obtain ⟨rba, rbb, rbc, rbd, rbe, rbf⟩ := row_facts rb) | (go_at_call 17; refine (refchk_any _ _ _ _ _ _ _).mono ?_; rintro e w2 ⟨rfl, hb2⟩; have rc : RowAt w2 w.heap.size 24 #[.int .u64 dst, .int .u64 src, .int .i64 seq, .int .i64 kind, .int .i64 par, .string dat] := (by (repeat' (first | (with_reducible assumption) | (with_reducible refine RowAt.drewN ?_ _) | (with_reducible refine RowAt.drew ?_) | (with_reducible apply RowAt.six) | (with_reducible apply RowAt.seven) | ((with_reducible refine RowAt.mk ?_ ?_); (focus (first | rfl | (simp; done))); rfl) | (with_reducible refine RowAt.alloc ?_ _) | (with_reducible refine RowAt.far ?_ ?_) | (with_reducible refine RowAt.run ?_ (by assumption)) | (with_reducible refine RowAt.below ?_ (by assumption) ?_) | (with_reducible refine RowAt.upd ?_ (by assumption) ?_) | (show _ < _; first | omega | (simp; done) | (simp; omega)) | (show ¬ _ = _; first | omega | (simp; done) | (simp; omega)) | exact rfl))); obtain ⟨rca, rcb, rcc, rcd, rce, rcf⟩ := row_facts rc; have rd : RowAt w2 (w.heap.size + 1) 24 #[.int .u64 dst', .int .u64 src', .int .i64 seq', .int .i64 kind', .int .i64 par', .string dat'] := (by (repeat' (first | (with_reducible assumption) | (with_reducible refine RowAt.drewN ?_ _) | (with_reducible refine RowAt.drew ?_) | (with_reducible apply RowAt.six) | (with_reducible apply RowAt.seven) | ((with_reducible refine RowAt.mk ?_ ?_); (focus (first | rfl | (simp; done))); rfl) | (with_reducible refine RowAt.alloc ?_ _) | (with_reducible refine RowAt.far ?_ ?_) | (with_reducible refine RowAt.run ?_ (by assumption)) | (with_reducible refine RowAt.below ?_ (by assumption) ?_) | (with_reducible refine RowAt.upd ?_ (by assumption) ?_) | (show _ < _; first | omega | (simp; done) | (simp; omega)) | (show ¬ _ = _; first | omega | (simp; done) | (simp; omega)) | exact rfl))); obtain ⟨rda, rdb, rdc, rdd, rde, rdf⟩ := row_facts rd))
  all_goals go_ret
  all_goals refine ⟨ret_bool ?_, ?_⟩
  all_goals first
    | ((repeat' (first | (with_reducible exact Below.refl _ _) | (with_reducible assumption) | (with_reducible refine below_run ?_ (by assumption)) | (with_reducible refine below_of_upd ?_ (by assumption) ?_) | (with_reducible refine below_drewN ?_ _) | (with_reducible refine Below.drew ?_) | (with_reducible refine below_seven ?_ ?_) | (with_reducible refine below_six ?_ ?_) | (with_reducible refine below_one ?_ ?_) | (with_reducible refine Below.alloc ?_ ?_ _) | (with_reducible refine below_after ?_ ?_ (by assumption)) | (show _ ≤ _; first | omega | (simp; done) | (simp; omega)))); done)
    | skip
  all_goals grind

/-- The message that the reference sends to seek devices. -/
def soughtM (src seq low high : Int) : Msg := ⟨281474976710655, src, seq, 1, 0, bytesB low 6 ++ bytesB high 6⟩
/-- The same, where the range fits. -/
def refdiscM (src seq low high : Int) : Msg := ⟨281474976710655, src, seq, 1, 0, if 281474976710655 < low ∨ 281474976710655 < high then bytesB 0 12 else bytesB low 6 ++ bytesB high 6⟩

theorem bad_two (m : Msg) (hk : m.kind = 1) (hp : m.par = 0) (hs : m.dat.size = 12)
    (hb : isId (numOf (m.dat.data.toList.take 6)) = false ∨ isId (numOf (m.dat.data.toList.drop 6)) = false) : chk m = 2 := by
  unfold chk
  by_cases h : (isId m.dst || decide (m.dst = 281474976710655)) = false ∨ isId m.src = false ∨ m.seq < 0 ∨ 255 < m.seq
  · rw [if_pos h]
  · rw [if_neg h, if_neg (by omega), if_neg (by omega), if_neg (by omega), if_neg (by rw [hk, hs]; simp [lenOf]), if_pos hk, if_pos hb]

theorem two_parts (a b : Int) : (bytesB a 6 ++ bytesB b 6).data.toList = bytesOf a.toNat 6 ++ bytesOf b.toNat 6 := by simp [bytesB, str]
theorem take_part (a b : Int) : (bytesB a 6 ++ bytesB b 6).data.toList.take 6 = bytesOf a.toNat 6 := by
  rw [two_parts, List.take_append_of_le_length (by rw [bytesOf_length]; omega), List.take_of_length_le (by rw [bytesOf_length]; omega)]
theorem drop_part (a b : Int) : (bytesB a 6 ++ bytesB b 6).data.toList.drop 6 = bytesOf b.toNat 6 := by
  rw [two_parts, List.drop_append_of_le_length (by rw [bytesOf_length]; omega), List.drop_of_length_le (by rw [bytesOf_length]; omega), List.nil_append]

theorem right_bad {m : Msg} (h : chk m = 2) : rightM m = (zeroM, 2) := by
  rw [rightM, if_neg (by omega), h]

/-- What is sought, on both sides. -/
theorem disc_eq (src seq low high : Int) (h0 : 0 ≤ low) (h1 : 0 ≤ high) : rightM (refdiscM src seq low high) = rightM (discM src seq low high) := by
  by_cases hi : (isId low && isId high) = true
  · have hl : 0 < low ∧ low < 281474976710655 := by simp [isId] at hi; omega
    have hh : 0 < high ∧ high < 281474976710655 := by simp [isId] at hi; omega
    rw [refdiscM, discM, if_neg (by omega), if_pos hi]
  · have z : (bytesB 0 12).data.toList.take 6 = [0, 0, 0, 0, 0, 0] := by decide +kernel
    have hz : isId (numOf [0, 0, 0, 0, 0, 0] : Nat) = false := by decide +kernel
    have e2 : rightM (discM src seq low high) = (zeroM, 2) := by
      apply right_bad
      rw [discM, if_neg hi]
      exact bad_two _ rfl rfl (by rw [bytesB_size]; rfl) (.inl (by rw [z]; exact hz))
    rw [e2]
    apply right_bad
    rw [refdiscM]
    by_cases hg : 281474976710655 < low ∨ 281474976710655 < high
    · rw [if_pos hg]
      exact bad_two _ rfl rfl (by rw [bytesB_size]; rfl) (.inl (by rw [z]; exact hz))
    · rw [if_neg hg]
      have nl : (numOf (bytesOf low.toNat 6) : Int) = low := numOf_bytes h0 (by omega)
      have nh : (numOf (bytesOf high.toNat 6) : Int) = high := numOf_bytes h1 (by omega)
      refine bad_two _ rfl rfl ?_ ?_
      · rw [ByteArray.size_append, bytesB_size, bytesB_size]; rfl
      · rw [take_part, drop_part, nl, nh]
        cases hL : isId low with
        | false => exact .inl rfl
        | true => exact .inr (by rw [hL] at hi; simpa using hi)

set_option maxHeartbeats 1000000 in
set_option maxRecDepth 100000 in
theorem sought_any (src seq low high : Int) (w : World) (h0 : 0 ≤ low) (h1 : low < 18446744073709551616) (h2 : 0 ≤ high) (h3 : high < 18446744073709551616) :
    Calls Tryd.prog 71 #[.int .u64 src, .int .i64 seq, .int .u64 low, .int .u64 high] w fun e w' => e = .returned (.agg #[.int .u64 281474976710655, .int .u64 src, .int .i64 seq, .int .i64 1, .int .i64 0, .string (bytesB low 6 ++ bytesB high 6)]) ∧ Below w.heap.size w w' := by
  have z1 : (bytesB low 6).size = 6 := by rw [bytesB_size]; rfl
  have z2 : (bytesB high 6).size = 6 := by rw [bytesB_size]; rfl
  have B1 := Lib.hid (fun W => mbytes_any low 6 W h0 h1 (by omega) (by omega))
  have B2 := Lib.hid (fun W => mbytes_any high 6 W h2 h3 (by omega) (by omega))
  clear h0 h1 h2 h3
  go_enter Tryd.func71, Tryd.ntmps71
  go_wp2_with fail
  refine (B1.out _).mono ?_
  rintro e w1 ⟨rfl, hb⟩
  have r1 : RowAt w1 w.heap.size 24 #[.int .u64 0, .int .u64 0, .int .i64 0, .int .i64 0, .int .i64 0, .string ⟨#[]⟩] := (by (repeat' (first | (with_reducible assumption) | (with_reducible refine RowAt.drewN ?_ _) | (with_reducible refine RowAt.drew ?_) | (with_reducible apply RowAt.six) | (with_reducible apply RowAt.seven) | ((with_reducible refine RowAt.mk ?_ ?_); (focus (first | rfl | (simp; done))); rfl) | (with_reducible refine RowAt.alloc ?_ _) | (with_reducible refine RowAt.far ?_ ?_) | (with_reducible refine RowAt.run ?_ (by assumption)) | (with_reducible refine RowAt.below ?_ (by assumption) ?_) | (with_reducible refine RowAt.upd ?_ (by assumption) ?_) | (show _ < _; first | omega | (simp; done) | (simp; omega)) | (show ¬ _ = _; first | omega | (simp; done) | (simp; omega)) | exact rfl))); obtain ⟨r1a, r1b, r1c, r1d, r1e, r1f⟩ := row_facts r1
  go_wp2_with fail
  refine (B2.out _).mono ?_
  rintro e w2 ⟨rfl, hb2⟩
  have r2 : RowAt w2 w.heap.size 24 #[.int .u64 0, .int .u64 0, .int .i64 0, .int .i64 0, .int .i64 0, .string ⟨#[]⟩] := (by (repeat' (first | (with_reducible assumption) | (with_reducible refine RowAt.drewN ?_ _) | (with_reducible refine RowAt.drew ?_) | (with_reducible apply RowAt.six) | (with_reducible apply RowAt.seven) | ((with_reducible refine RowAt.mk ?_ ?_); (focus (first | rfl | (simp; done))); rfl) | (with_reducible refine RowAt.alloc ?_ _) | (with_reducible refine RowAt.far ?_ ?_) | (with_reducible refine RowAt.run ?_ (by assumption)) | (with_reducible refine RowAt.below ?_ (by assumption) ?_) | (with_reducible refine RowAt.upd ?_ (by assumption) ?_) | (show _ < _; first | omega | (simp; done) | (simp; omega)) | (show ¬ _ = _; first | omega | (simp; done) | (simp; omega)) | exact rfl))); obtain ⟨r2a, r2b, r2c, r2d, r2e, r2f⟩ := row_facts r2
  go_wp2
  refine bodyPost_ret (v := msgV (soughtM src seq low high)) ?_ rfl ⟨rfl, ?_⟩
  · simp [results, Tryd.results71, go_sem, soughtM, r2a]
  · (repeat' (first | (with_reducible exact Below.refl _ _) | (with_reducible assumption) | (with_reducible refine below_run ?_ (by assumption)) | (with_reducible refine below_of_upd ?_ (by assumption) ?_) | (with_reducible refine below_drewN ?_ _) | (with_reducible refine Below.drew ?_) | (with_reducible refine below_seven ?_ ?_) | (with_reducible refine below_six ?_ ?_) | (with_reducible refine below_one ?_ ?_) | (with_reducible refine Below.alloc ?_ ?_ _) | (with_reducible refine below_after ?_ ?_ (by assumption)) | (show _ ≤ _; first | omega | (simp; done) | (simp; omega))))

set_option maxHeartbeats 1000000 in
set_option maxRecDepth 100000 in
theorem refdiscover_any (src seq low high : Int) (w : World) (h0 : 0 ≤ low) (h1 : low < 18446744073709551616) (h2 : 0 ≤ high) (h3 : high < 18446744073709551616) :
    Calls Tryd.prog 30 #[.int .u64 src, .int .i64 seq, .int .u64 low, .int .u64 high] w
      fun e w' => ∃ m n, e = .returned (.tuple #[msgV m, .int .i64 n]) ∧ Hid (rightM (discM src seq low high) = (m, n)) ∧ Below w.heap.size w w' := by
  rw [← disc_eq src seq low high h0 h2]
  have S := Lib.hid (fun W => sought_any src seq low high W h0 h1 h2 h3)
  by_cases hg1 : 281474976710655 < low
  · have HE : Hid (refdiscM src seq low high = ⟨281474976710655, src, seq, 1, 0, bytesB 0 12⟩) := Lib.hid (by rw [refdiscM, if_pos (.inl hg1)])
    clear h1 h3
    go_enter Tryd.func30, Tryd.ntmps30
    go_wp2_with fail
    refine (S.out _).mono ?_
    rintro e w1 ⟨rfl, hb⟩
    have r1 : RowAt w1 w.heap.size 24 #[.int .u64 0, .int .u64 0, .int .i64 0, .int .i64 0, .int .i64 0, .string ⟨#[]⟩] := (by (repeat' (first | (with_reducible assumption) | (with_reducible refine RowAt.drewN ?_ _) | (with_reducible refine RowAt.drew ?_) | (with_reducible apply RowAt.six) | (with_reducible apply RowAt.seven) | ((with_reducible refine RowAt.mk ?_ ?_); (focus (first | rfl | (simp; done))); rfl) | (with_reducible refine RowAt.alloc ?_ _) | (with_reducible refine RowAt.far ?_ ?_) | (with_reducible refine RowAt.run ?_ (by assumption)) | (with_reducible refine RowAt.below ?_ (by assumption) ?_) | (with_reducible refine RowAt.upd ?_ (by assumption) ?_) | (show _ < _; first | omega | (simp; done) | (simp; omega)) | (show ¬ _ = _; first | omega | (simp; done) | (simp; omega)) | exact rfl))); obtain ⟨r1a, r1b, r1c, r1d, r1e, r1f⟩ := row_facts r1
    go_wp2_with (first | (go_at_call 72; refine (mbytes_any _ _ _ (by omega) (by omega) (by omega) (by omega)).mono ?_; rintro e w2 ⟨rfl, hb2⟩; have r2 : RowAt w2 w.heap.size 24 #[.int .u64 0, .int .u64 0, .int .i64 0, .int .i64 0, .int .i64 0, .string ⟨#[]⟩] := (by (repeat' (first | (with_reducible assumption) | (with_reducible refine RowAt.drewN ?_ _) | (with_reducible refine RowAt.drew ?_) | (with_reducible apply RowAt.six) | (with_reducible apply RowAt.seven) | ((with_reducible refine RowAt.mk ?_ ?_); (focus (first | rfl | (simp; done))); rfl) | (with_reducible refine RowAt.alloc ?_ _) | (with_reducible refine RowAt.far ?_ ?_) | (with_reducible refine RowAt.run ?_ (by assumption)) | (with_reducible refine RowAt.below ?_ (by assumption) ?_) | (with_reducible refine RowAt.upd ?_ (by assumption) ?_) | (show _ < _; first | omega | (simp; done) | (simp; omega)) | (show ¬ _ = _; first | omega | (simp; done) | (simp; omega)) | exact rfl))); obtain ⟨r2a, r2b, r2c, r2d, r2e, r2f⟩ := row_facts r2; have q2 : RowAt w2 w1.heap.size 24 #[.int .u64 281474976710655, .int .u64 src, .int .i64 seq, .int .i64 1, .int .i64 0, .string (bytesB low 6 ++ bytesB high 6)] := (by (repeat' (first | (with_reducible assumption) | (with_reducible refine RowAt.drewN ?_ _) | (with_reducible refine RowAt.drew ?_) | (with_reducible apply RowAt.six) | (with_reducible apply RowAt.seven) | ((with_reducible refine RowAt.mk ?_ ?_); (focus (first | rfl | (simp; done))); rfl) | (with_reducible refine RowAt.alloc ?_ _) | (with_reducible refine RowAt.far ?_ ?_) | (with_reducible refine RowAt.run ?_ (by assumption)) | (with_reducible refine RowAt.below ?_ (by assumption) ?_) | (with_reducible refine RowAt.upd ?_ (by assumption) ?_) | (show _ < _; first | omega | (simp; done) | (simp; omega)) | (show ¬ _ = _; first | omega | (simp; done) | (simp; omega)) | exact rfl))); obtain ⟨q2a, q2b, q2c, q2d, q2e, q2f⟩ := row_facts q2; have q2' : RowAt (w2.setCell ⟨w1.heap.size, 5, none⟩ (.string (bytesB 0 12))) w1.heap.size 24 #[.int .u64 281474976710655, .int .u64 src, .int .i64 seq, .int .i64 1, .int .i64 0, .string (bytesB 0 12)] := RowAt.set q2 rfl; have r2' : RowAt (w2.setCell ⟨w1.heap.size, 5, none⟩ (.string (bytesB 0 12))) w.heap.size 24 #[.int .u64 0, .int .u64 0, .int .i64 0, .int .i64 0, .int .i64 0, .string ⟨#[]⟩] := r2.far (by simp; omega)) | (go_at_call 17; refine (refchk_any _ _ _ _ _ _ _).mono ?_; rintro e w3 ⟨rfl, hb3⟩; have r3 : RowAt w3 w.heap.size 24 #[.int .u64 0, .int .u64 0, .int .i64 0, .int .i64 0, .int .i64 0, .string ⟨#[]⟩] := (by (repeat' (first | (with_reducible assumption) | (with_reducible refine RowAt.drewN ?_ _) | (with_reducible refine RowAt.drew ?_) | (with_reducible apply RowAt.six) | (with_reducible apply RowAt.seven) | ((with_reducible refine RowAt.mk ?_ ?_); (focus (first | rfl | (simp; done))); rfl) | (with_reducible refine RowAt.alloc ?_ _) | (with_reducible refine RowAt.far ?_ ?_) | (with_reducible refine RowAt.run ?_ (by assumption)) | (with_reducible refine RowAt.below ?_ (by assumption) ?_) | (with_reducible refine RowAt.upd ?_ (by assumption) ?_) | (show _ < _; first | omega | (simp; done) | (simp; omega)) | (show ¬ _ = _; first | omega | (simp; done) | (simp; omega)) | exact rfl))); obtain ⟨r3a, r3b, r3c, r3d, r3e, r3f⟩ := row_facts r3; have q3 : RowAt w3 w1.heap.size 24 #[.int .u64 281474976710655, .int .u64 src, .int .i64 seq, .int .i64 1, .int .i64 0, .string (bytesB 0 12)] := (by (repeat' (first | (with_reducible assumption) | (with_reducible refine RowAt.drewN ?_ _) | (with_reducible refine RowAt.drew ?_) | (with_reducible apply RowAt.six) | (with_reducible apply RowAt.seven) | ((with_reducible refine RowAt.mk ?_ ?_); (focus (first | rfl | (simp; done))); rfl) | (with_reducible refine RowAt.alloc ?_ _) | (with_reducible refine RowAt.far ?_ ?_) | (with_reducible refine RowAt.run ?_ (by assumption)) | (with_reducible refine RowAt.below ?_ (by assumption) ?_) | (with_reducible refine RowAt.upd ?_ (by assumption) ?_) | (show _ < _; first | omega | (simp; done) | (simp; omega)) | (show ¬ _ = _; first | omega | (simp; done) | (simp; omega)) | exact rfl))); obtain ⟨q3a, q3b, q3c, q3d, q3e, q3f⟩ := row_facts q3))
    · rename (chk _ != 0) = true => hq
      have h : chk ⟨281474976710655, src, seq, 1, 0, bytesB 0 12⟩ ≠ 0 := ne_of_bne hq
      refine bodyPost_ret (v := .tuple #[msgV zeroM, .int .i64 (chk ⟨281474976710655, src, seq, 1, 0, bytesB 0 12⟩)]) ?_ rfl ⟨_, _, rfl, ?_, ?_⟩
      · simp [results, Tryd.results30, go_sem, zeroM, r3a]
      · rw [HE.out]; simp [Hid, rightM, h]
      · (repeat' (first | (with_reducible exact Below.refl _ _) | (with_reducible assumption) | (with_reducible refine below_run ?_ (by assumption)) | (with_reducible refine below_of_upd ?_ (by assumption) ?_) | (with_reducible refine below_drewN ?_ _) | (with_reducible refine Below.drew ?_) | (with_reducible refine below_seven ?_ ?_) | (with_reducible refine below_six ?_ ?_) | (with_reducible refine below_one ?_ ?_) | (with_reducible refine Below.alloc ?_ ?_ _) | (with_reducible refine below_after ?_ ?_ (by assumption)) | (show _ ≤ _; first | omega | (simp; done) | (simp; omega))))
    · rename (chk _ != 0) = false => hq
      have h : chk ⟨281474976710655, src, seq, 1, 0, bytesB 0 12⟩ = 0 := eq_of_bne hq
      refine bodyPost_ret (v := .tuple #[msgV ⟨281474976710655, src, seq, 1, 0, bytesB 0 12⟩, .int .i64 0]) ?_ rfl ⟨_, _, rfl, ?_, ?_⟩
      · simp [results, Tryd.results30, go_sem, r3a]
      · rw [HE.out]; simp [Hid, rightM, h]
      · (repeat' (first | (with_reducible exact Below.refl _ _) | (with_reducible assumption) | (with_reducible refine below_run ?_ (by assumption)) | (with_reducible refine below_of_upd ?_ (by assumption) ?_) | (with_reducible refine below_drewN ?_ _) | (with_reducible refine Below.drew ?_) | (with_reducible refine below_seven ?_ ?_) | (with_reducible refine below_six ?_ ?_) | (with_reducible refine below_one ?_ ?_) | (with_reducible refine Below.alloc ?_ ?_ _) | (with_reducible refine below_after ?_ ?_ (by assumption)) | (show _ ≤ _; first | omega | (simp; done) | (simp; omega))))
  by_cases hg2 : 281474976710655 < high
  · have HE : Hid (refdiscM src seq low high = ⟨281474976710655, src, seq, 1, 0, bytesB 0 12⟩) := Lib.hid (by rw [refdiscM, if_pos (.inr hg2)])
    clear h1 h3
    go_enter Tryd.func30, Tryd.ntmps30
    go_wp2_with fail
    refine (S.out _).mono ?_
    rintro e w1 ⟨rfl, hb⟩
    have r1 : RowAt w1 w.heap.size 24 #[.int .u64 0, .int .u64 0, .int .i64 0, .int .i64 0, .int .i64 0, .string ⟨#[]⟩] := (by (repeat' (first | (with_reducible assumption) | (with_reducible refine RowAt.drewN ?_ _) | (with_reducible refine RowAt.drew ?_) | (with_reducible apply RowAt.six) | (with_reducible apply RowAt.seven) | ((with_reducible refine RowAt.mk ?_ ?_); (focus (first | rfl | (simp; done))); rfl) | (with_reducible refine RowAt.alloc ?_ _) | (with_reducible refine RowAt.far ?_ ?_) | (with_reducible refine RowAt.run ?_ (by assumption)) | (with_reducible refine RowAt.below ?_ (by assumption) ?_) | (with_reducible refine RowAt.upd ?_ (by assumption) ?_) | (show _ < _; first | omega | (simp; done) | (simp; omega)) | (show ¬ _ = _; first | omega | (simp; done) | (simp; omega)) | exact rfl))); obtain ⟨r1a, r1b, r1c, r1d, r1e, r1f⟩ := row_facts r1
    go_wp2_with (first | (go_at_call 72; refine (mbytes_any _ _ _ (by omega) (by omega) (by omega) (by omega)).mono ?_; rintro e w2 ⟨rfl, hb2⟩; have r2 : RowAt w2 w.heap.size 24 #[.int .u64 0, .int .u64 0, .int .i64 0, .int .i64 0, .int .i64 0, .string ⟨#[]⟩] := (by (repeat' (first | (with_reducible assumption) | (with_reducible refine RowAt.drewN ?_ _) | (with_reducible refine RowAt.drew ?_) | (with_reducible apply RowAt.six) | (with_reducible apply RowAt.seven) | ((with_reducible refine RowAt.mk ?_ ?_); (focus (first | rfl | (simp; done))); rfl) | (with_reducible refine RowAt.alloc ?_ _) | (with_reducible refine RowAt.far ?_ ?_) | (with_reducible refine RowAt.run ?_ (by assumption)) | (with_reducible refine RowAt.below ?_ (by assumption) ?_) | (with_reducible refine RowAt.upd ?_ (by assumption) ?_) | (show _ < _; first | omega | (simp; done) | (simp; omega)) | (show ¬ _ = _; first | omega | (simp; done) | (simp; omega)) | exact rfl))); obtain ⟨r2a, r2b, r2c, r2d, r2e, r2f⟩ := row_facts r2; have q2 : RowAt w2 w1.heap.size 24 #[.int .u64 281474976710655, .int .u64 src, .int .i64 seq, .int .i64 1, .int .i64 0, .string (bytesB low 6 ++ bytesB high 6)] := (by (repeat' (first | (with_reducible assumption) | (with_reducible refine RowAt.drewN ?_ _) | (with_reducible refine RowAt.drew ?_) | (with_reducible apply RowAt.six) | (with_reducible apply RowAt.seven) | ((with_reducible refine RowAt.mk ?_ ?_); (focus (first | rfl | (simp; done))); rfl) | (with_reducible refine RowAt.alloc ?_ _) | (with_reducible refine RowAt.far ?_ ?_) | (with_reducible refine RowAt.run ?_ (by assumption)) | (with_reducible refine RowAt.below ?_ (by assumption) ?_) | (with_reducible refine RowAt.upd ?_ (by assumption) ?_) | (show _ < _; first | omega | (simp; done) | (simp; omega)) | (show ¬ _ = _; first | omega | (simp; done) | (simp; omega)) | exact rfl))); obtain ⟨q2a, q2b, q2c, q2d, q2e, q2f⟩ := row_facts q2; have q2' : RowAt (w2.setCell ⟨w1.heap.size, 5, none⟩ (.string (bytesB 0 12))) w1.heap.size 24 #[.int .u64 281474976710655, .int .u64 src, .int .i64 seq, .int .i64 1, .int .i64 0, .string (bytesB 0 12)] := RowAt.set q2 rfl; have r2' : RowAt (w2.setCell ⟨w1.heap.size, 5, none⟩ (.string (bytesB 0 12))) w.heap.size 24 #[.int .u64 0, .int .u64 0, .int .i64 0, .int .i64 0, .int .i64 0, .string ⟨#[]⟩] := r2.far (by simp; omega)) | (go_at_call 17; refine (refchk_any _ _ _ _ _ _ _).mono ?_; rintro e w3 ⟨rfl, hb3⟩; have r3 : RowAt w3 w.heap.size 24 #[.int .u64 0, .int .u64 0, .int .i64 0, .int .i64 0, .int .i64 0, .string ⟨#[]⟩] := (by (repeat' (first | (with_reducible assumption) | (with_reducible refine RowAt.drewN ?_ _) | (with_reducible refine RowAt.drew ?_) | (with_reducible apply RowAt.six) | (with_reducible apply RowAt.seven) | ((with_reducible refine RowAt.mk ?_ ?_); (focus (first | rfl | (simp; done))); rfl) | (with_reducible refine RowAt.alloc ?_ _) | (with_reducible refine RowAt.far ?_ ?_) | (with_reducible refine RowAt.run ?_ (by assumption)) | (with_reducible refine RowAt.below ?_ (by assumption) ?_) | (with_reducible refine RowAt.upd ?_ (by assumption) ?_) | (show _ < _; first | omega | (simp; done) | (simp; omega)) | (show ¬ _ = _; first | omega | (simp; done) | (simp; omega)) | exact rfl))); obtain ⟨r3a, r3b, r3c, r3d, r3e, r3f⟩ := row_facts r3; have q3 : RowAt w3 w1.heap.size 24 #[.int .u64 281474976710655, .int .u64 src, .int .i64 seq, .int .i64 1, .int .i64 0, .string (bytesB 0 12)] := (by (repeat' (first | (with_reducible assumption) | (with_reducible refine RowAt.drewN ?_ _) | (with_reducible refine RowAt.drew ?_) | (with_reducible apply RowAt.six) | (with_reducible apply RowAt.seven) | ((with_reducible refine RowAt.mk ?_ ?_); (focus (first | rfl | (simp; done))); rfl) | (with_reducible refine RowAt.alloc ?_ _) | (with_reducible refine RowAt.far ?_ ?_) | (with_reducible refine RowAt.run ?_ (by assumption)) | (with_reducible refine RowAt.below ?_ (by assumption) ?_) | (with_reducible refine RowAt.upd ?_ (by assumption) ?_) | (show _ < _; first | omega | (simp; done) | (simp; omega)) | (show ¬ _ = _; first | omega | (simp; done) | (simp; omega)) | exact rfl))); obtain ⟨q3a, q3b, q3c, q3d, q3e, q3f⟩ := row_facts q3))
    · rename (chk _ != 0) = true => hq
      have h : chk ⟨281474976710655, src, seq, 1, 0, bytesB 0 12⟩ ≠ 0 := ne_of_bne hq
      refine bodyPost_ret (v := .tuple #[msgV zeroM, .int .i64 (chk ⟨281474976710655, src, seq, 1, 0, bytesB 0 12⟩)]) ?_ rfl ⟨_, _, rfl, ?_, ?_⟩
      · simp [results, Tryd.results30, go_sem, zeroM, r3a]
      · rw [HE.out]; simp [Hid, rightM, h]
      · (repeat' (first | (with_reducible exact Below.refl _ _) | (with_reducible assumption) | (with_reducible refine below_run ?_ (by assumption)) | (with_reducible refine below_of_upd ?_ (by assumption) ?_) | (with_reducible refine below_drewN ?_ _) | (with_reducible refine Below.drew ?_) | (with_reducible refine below_seven ?_ ?_) | (with_reducible refine below_six ?_ ?_) | (with_reducible refine below_one ?_ ?_) | (with_reducible refine Below.alloc ?_ ?_ _) | (with_reducible refine below_after ?_ ?_ (by assumption)) | (show _ ≤ _; first | omega | (simp; done) | (simp; omega))))
    · rename (chk _ != 0) = false => hq
      have h : chk ⟨281474976710655, src, seq, 1, 0, bytesB 0 12⟩ = 0 := eq_of_bne hq
      refine bodyPost_ret (v := .tuple #[msgV ⟨281474976710655, src, seq, 1, 0, bytesB 0 12⟩, .int .i64 0]) ?_ rfl ⟨_, _, rfl, ?_, ?_⟩
      · simp [results, Tryd.results30, go_sem, r3a]
      · rw [HE.out]; simp [Hid, rightM, h]
      · (repeat' (first | (with_reducible exact Below.refl _ _) | (with_reducible assumption) | (with_reducible refine below_run ?_ (by assumption)) | (with_reducible refine below_of_upd ?_ (by assumption) ?_) | (with_reducible refine below_drewN ?_ _) | (with_reducible refine Below.drew ?_) | (with_reducible refine below_seven ?_ ?_) | (with_reducible refine below_six ?_ ?_) | (with_reducible refine below_one ?_ ?_) | (with_reducible refine Below.alloc ?_ ?_ _) | (with_reducible refine below_after ?_ ?_ (by assumption)) | (show _ ≤ _; first | omega | (simp; done) | (simp; omega))))
  · have HE : Hid (refdiscM src seq low high = ⟨281474976710655, src, seq, 1, 0, bytesB low 6 ++ bytesB high 6⟩) := Lib.hid (by rw [refdiscM, if_neg (by omega)])
    clear h1 h3
    go_enter Tryd.func30, Tryd.ntmps30
    go_wp2_with fail
    refine (S.out _).mono ?_
    rintro e w1 ⟨rfl, hb⟩
    have r1 : RowAt w1 w.heap.size 24 #[.int .u64 0, .int .u64 0, .int .i64 0, .int .i64 0, .int .i64 0, .string ⟨#[]⟩] := (by (repeat' (first | (with_reducible assumption) | (with_reducible refine RowAt.drewN ?_ _) | (with_reducible refine RowAt.drew ?_) | (with_reducible apply RowAt.six) | (with_reducible apply RowAt.seven) | ((with_reducible refine RowAt.mk ?_ ?_); (focus (first | rfl | (simp; done))); rfl) | (with_reducible refine RowAt.alloc ?_ _) | (with_reducible refine RowAt.far ?_ ?_) | (with_reducible refine RowAt.run ?_ (by assumption)) | (with_reducible refine RowAt.below ?_ (by assumption) ?_) | (with_reducible refine RowAt.upd ?_ (by assumption) ?_) | (show _ < _; first | omega | (simp; done) | (simp; omega)) | (show ¬ _ = _; first | omega | (simp; done) | (simp; omega)) | exact rfl))); obtain ⟨r1a, r1b, r1c, r1d, r1e, r1f⟩ := row_facts r1
    go_wp2_with (first | (go_at_call 17; refine (refchk_any _ _ _ _ _ _ _).mono ?_; rintro e w3 ⟨rfl, hb3⟩; have r3 : RowAt w3 w.heap.size 24 #[.int .u64 0, .int .u64 0, .int .i64 0, .int .i64 0, .int .i64 0, .string ⟨#[]⟩] := (by (repeat' (first | (with_reducible assumption) | (with_reducible refine RowAt.drewN ?_ _) | (with_reducible refine RowAt.drew ?_) | (with_reducible apply RowAt.six) | (with_reducible apply RowAt.seven) | ((with_reducible refine RowAt.mk ?_ ?_); (focus (first | rfl | (simp; done))); rfl) | (with_reducible refine RowAt.alloc ?_ _) | (with_reducible refine RowAt.far ?_ ?_) | (with_reducible refine RowAt.run ?_ (by assumption)) | (with_reducible refine RowAt.below ?_ (by assumption) ?_) | (with_reducible refine RowAt.upd ?_ (by assumption) ?_) | (show _ < _; first | omega | (simp; done) | (simp; omega)) | (show ¬ _ = _; first | omega | (simp; done) | (simp; omega)) | exact rfl))); obtain ⟨r3a, r3b, r3c, r3d, r3e, r3f⟩ := row_facts r3; have q3 : RowAt w3 w1.heap.size 24 #[.int .u64 281474976710655, .int .u64 src, .int .i64 seq, .int .i64 1, .int .i64 0, .string (bytesB low 6 ++ bytesB high 6)] := (by (repeat' (first | (with_reducible assumption) | (with_reducible refine RowAt.drewN ?_ _) | (with_reducible refine RowAt.drew ?_) | (with_reducible apply RowAt.six) | (with_reducible apply RowAt.seven) | ((with_reducible refine RowAt.mk ?_ ?_); (focus (first | rfl | (simp; done))); rfl) | (with_reducible refine RowAt.alloc ?_ _) | (with_reducible refine RowAt.far ?_ ?_) | (with_reducible refine RowAt.run ?_ (by assumption)) | (with_reducible refine RowAt.below ?_ (by assumption) ?_) | (with_reducible refine RowAt.upd ?_ (by assumption) ?_) | (show _ < _; first | omega | (simp; done) | (simp; omega)) | (show ¬ _ = _; first | omega | (simp; done) | (simp; omega)) | exact rfl))); obtain ⟨q3a, q3b, q3c, q3d, q3e, q3f⟩ := row_facts q3))
    · rename (chk _ != 0) = true => hq
      have h : chk ⟨281474976710655, src, seq, 1, 0, bytesB low 6 ++ bytesB high 6⟩ ≠ 0 := ne_of_bne hq
      refine bodyPost_ret (v := .tuple #[msgV zeroM, .int .i64 (chk ⟨281474976710655, src, seq, 1, 0, bytesB low 6 ++ bytesB high 6⟩)]) ?_ rfl ⟨_, _, rfl, ?_, ?_⟩
      · simp [results, Tryd.results30, go_sem, zeroM, r3a]
      · rw [HE.out]; simp [Hid, rightM, h]
      · (repeat' (first | (with_reducible exact Below.refl _ _) | (with_reducible assumption) | (with_reducible refine below_run ?_ (by assumption)) | (with_reducible refine below_of_upd ?_ (by assumption) ?_) | (with_reducible refine below_drewN ?_ _) | (with_reducible refine Below.drew ?_) | (with_reducible refine below_seven ?_ ?_) | (with_reducible refine below_six ?_ ?_) | (with_reducible refine below_one ?_ ?_) | (with_reducible refine Below.alloc ?_ ?_ _) | (with_reducible refine below_after ?_ ?_ (by assumption)) | (show _ ≤ _; first | omega | (simp; done) | (simp; omega))))
    · rename (chk _ != 0) = false => hq
      have h : chk ⟨281474976710655, src, seq, 1, 0, bytesB low 6 ++ bytesB high 6⟩ = 0 := eq_of_bne hq
      refine bodyPost_ret (v := .tuple #[msgV ⟨281474976710655, src, seq, 1, 0, bytesB low 6 ++ bytesB high 6⟩, .int .i64 0]) ?_ rfl ⟨_, _, rfl, ?_, ?_⟩
      · simp [results, Tryd.results30, go_sem, r3a]
      · rw [HE.out]; simp [Hid, rightM, h]
      · (repeat' (first | (with_reducible exact Below.refl _ _) | (with_reducible assumption) | (with_reducible refine below_run ?_ (by assumption)) | (with_reducible refine below_of_upd ?_ (by assumption) ?_) | (with_reducible refine below_drewN ?_ _) | (with_reducible refine Below.drew ?_) | (with_reducible refine below_seven ?_ ?_) | (with_reducible refine below_six ?_ ?_) | (with_reducible refine below_one ?_ ?_) | (with_reducible refine Below.alloc ?_ ?_ _) | (with_reducible refine below_after ?_ ?_ (by assumption)) | (show _ ≤ _; first | omega | (simp; done) | (simp; omega))))

end Go.Proofs.YtdklpmaeajpacaaDoor
