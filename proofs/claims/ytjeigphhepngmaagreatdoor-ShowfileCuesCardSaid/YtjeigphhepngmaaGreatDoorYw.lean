/-
  Cue of both sides.
-/
import Derived.Shelf.Abstract
import Derived.Test.YtjeigphhepngmaaGreatDoorYv
namespace Go.Proofs.YtjeigphhepngmaaGreatDoor
open Go.RowKit

/-- The data of a cue, or the error. -/
def cueS (c : CueD) : ByteArray := if cueE c = 0 then str (cueB c) else ⟨#[]⟩

theorem cue_enters : ∀ args W, (callFunc 70 args).run Tryz.prog W = .ok (.enter 70 args) W := enters_of Tryz.func70 (by kernel_rfl) rfl

set_option maxHeartbeats 4000000 in
set_option maxRecDepth 100000 in
theorem scue_any (c : CueD) (v1 v2 : Value) (w : World) (h : CueAt w v1 v2 c) (hc : Cue64 c) (hcap : CapOk v1) (hlen : (cueB c).length ≤ 1000000000) (hn : c.num.size ≤ 9223372036854775806) (hk : c.link.size ≤ 9223372036854775806) :
    Calls Tryz.prog 28 #[.agg #[.string c.num, .string c.lab, v1, v2, .bool c.block, .bool c.mark, .int .i64 c.follow, .string c.link, .int .i64 c.loops]] w fun e w' => e = .returned (.tuple #[.string (cueS c), .int .i64 (cueE c)]) ∧ Below w.heap.size w w' := by
  have C := fun (W : World) (hb : Below w.heap.size w W) => ccheck_any c v1 v2 W (h.run hb) hcap hn hc.lab hk
  have HA := Lib.hid h
  have HC := Lib.hid hc
  obtain ⟨r, hr⟩ : ∃ r, cueE c = r := ⟨_, rfl⟩
  have hS : cueS c = if r = 0 then str (cueB c) else ⟨#[]⟩ := by rw [cueS, hr]
  rw [hr] at C ⊢
  rw [hS]
  have K := Lib.hid C
  clear C h hc hr hS
  by_cases hr0 : r = 0
  · subst hr0
    rw [if_pos rfl]
    go_enter Tryz.func28, Tryz.ntmps28
    go_wp2_with fail
    refine (K.out _ (by (repeat' (first | (with_reducible exact Below.refl _ _) | (with_reducible assumption) | (with_reducible refine below_run ?_ (by assumption)) | (with_reducible refine below_of_upd ?_ (by assumption) ?_) | (with_reducible refine below_drewN ?_ _) | (with_reducible refine Below.drew ?_) | (with_reducible refine below_seven ?_ ?_) | (with_reducible refine below_six ?_ ?_) | (with_reducible refine below_one ?_ ?_) | (with_reducible refine Below.alloc ?_ ?_ _) | (with_reducible refine below_after ?_ ?_ (by assumption)) | (show _ ≤ _; first | omega | (simp; done) | (simp; omega)))))).mono ?_
    rintro e w1 ⟨rfl, hb1⟩
    have hr : RowAt w1 w.heap.size 64 #[.string c.num, .string c.lab, v1, v2, .bool c.block, .bool c.mark, .int .i64 c.follow, .string c.link, .int .i64 c.loops] := (by (repeat' (first | (with_reducible assumption) | (with_reducible refine RowAt.drewN ?_ _) | (with_reducible refine RowAt.drew ?_) | (with_reducible apply RowAt.six) | (with_reducible apply RowAt.seven) | ((with_reducible refine RowAt.mk ?_ ?_); (focus (first | rfl | (simp; done))); rfl) | (with_reducible refine RowAt.alloc ?_ _) | (with_reducible refine RowAt.far ?_ ?_) | (with_reducible refine RowAt.run ?_ (by assumption)) | (with_reducible refine RowAt.below ?_ (by assumption) ?_) | (with_reducible refine RowAt.upd ?_ (by assumption) ?_) | (show _ < _; first | omega | (simp; done) | (simp; omega)) | (show ¬ _ = _; first | omega | (simp; done) | (simp; omega)) | exact rfl))); obtain ⟨hra, hrb, hrc, hrd, hre, hrf⟩ := row_facts hr
    have hbw : Below w.heap.size w w1 := by (repeat' (first | (with_reducible exact Below.refl _ _) | (with_reducible assumption) | (with_reducible refine below_run ?_ (by assumption)) | (with_reducible refine below_of_upd ?_ (by assumption) ?_) | (with_reducible refine below_drewN ?_ _) | (with_reducible refine Below.drew ?_) | (with_reducible refine below_seven ?_ ?_) | (with_reducible refine below_six ?_ ?_) | (with_reducible refine below_one ?_ ?_) | (with_reducible refine Below.alloc ?_ ?_ _) | (with_reducible refine below_after ?_ ?_ (by assumption)) | (show _ ≤ _; first | omega | (simp; done) | (simp; omega))))
    have D := Lib.hid (data_any 70 (.pointer (some ⟨w.heap.size, 0, none⟩)) (cueB c) w1 (cueB_ne c) cue_enters (fun b W hW hb => wcue1_any w1.heap.size b w.heap.size c v1 v2 W hW (hr.run hb) (((HA.out.run hbw).moves.low (Nat.le_refl _)).kept hb) (((HA.out.run hbw).parts.low (Nat.le_refl _)).kept hb) HC.out (by omega) hb.size))
    have HB := Lib.hid hbw
    clear hra hr hb1 hbw
    go_wp2_with fail
    refine D.out.mono ?_
    rintro e w2 ⟨rfl, hb2⟩
    go_wp2
    go_ret2
    exact ⟨rfl, HB.out.trans (hb2.mono HB.out.size)⟩
  · have hr1 : (r != 0) = true := by simpa using hr0
    rw [if_neg hr0]
    go_enter Tryz.func28, Tryz.ntmps28
    go_wp2_with fail
    refine (K.out _ (by (repeat' (first | (with_reducible exact Below.refl _ _) | (with_reducible assumption) | (with_reducible refine below_run ?_ (by assumption)) | (with_reducible refine below_of_upd ?_ (by assumption) ?_) | (with_reducible refine below_drewN ?_ _) | (with_reducible refine Below.drew ?_) | (with_reducible refine below_seven ?_ ?_) | (with_reducible refine below_six ?_ ?_) | (with_reducible refine below_one ?_ ?_) | (with_reducible refine Below.alloc ?_ ?_ _) | (with_reducible refine below_after ?_ ?_ (by assumption)) | (show _ ≤ _; first | omega | (simp; done) | (simp; omega)))))).mono ?_
    rintro e w1 ⟨rfl, hb1⟩
    go_wp2
    go_ret2
    exact ⟨rfl, by (repeat' (first | (with_reducible exact Below.refl _ _) | (with_reducible assumption) | (with_reducible refine below_run ?_ (by assumption)) | (with_reducible refine below_of_upd ?_ (by assumption) ?_) | (with_reducible refine below_drewN ?_ _) | (with_reducible refine Below.drew ?_) | (with_reducible refine below_seven ?_ ?_) | (with_reducible refine below_six ?_ ?_) | (with_reducible refine below_one ?_ ?_) | (with_reducible refine Below.alloc ?_ ?_ _) | (with_reducible refine below_after ?_ ?_ (by assumption)) | (show _ ≤ _; first | omega | (simp; done) | (simp; omega))))⟩

set_option maxHeartbeats 4000000 in
set_option maxRecDepth 100000 in
theorem r50cue_any (c : CueD) (v1 v2 : Value) (w : World) (h : CueAt w v1 v2 c) (hc : Cue64 c) (hlen : (cueB c).length ≤ 1000000000) (hn : c.num.size ≤ 9223372036854775806) (hk : c.link.size ≤ 9223372036854775806) :
    Calls Tryz.prog 29 #[.agg #[.string c.num, .string c.lab, v1, v2, .bool c.block, .bool c.mark, .int .i64 c.follow, .string c.link, .int .i64 c.loops]] w fun e w' => e = .returned (.tuple #[.string (cueS c), .int .i64 (cueE c)]) ∧ Below w.heap.size w w' := by
  have C := fun (W : World) (hb : Below w.heap.size w W) => rcheck_any c v1 v2 W (h.run hb) hn hc.lab hk
  have D := Lib.hid (fun (W : World) (hb : Below w.heap.size w W) => r50written_any c v1 v2 W (h.run hb) hc hlen)
  obtain ⟨r, hr⟩ : ∃ r, cueE c = r := ⟨_, rfl⟩
  have hS : cueS c = if r = 0 then str (cueB c) else ⟨#[]⟩ := by rw [cueS, hr]
  rw [hr] at C ⊢
  rw [hS]
  have K := Lib.hid C
  clear C h hc hr hS
  by_cases hr0 : r = 0
  · subst hr0
    rw [if_pos rfl]
    go_enter Tryz.func29, Tryz.ntmps29
    go_wp2_with fail
    refine (K.out _ (by (repeat' (first | (with_reducible exact Below.refl _ _) | (with_reducible assumption) | (with_reducible refine below_run ?_ (by assumption)) | (with_reducible refine below_of_upd ?_ (by assumption) ?_) | (with_reducible refine below_drewN ?_ _) | (with_reducible refine Below.drew ?_) | (with_reducible refine below_seven ?_ ?_) | (with_reducible refine below_six ?_ ?_) | (with_reducible refine below_one ?_ ?_) | (with_reducible refine Below.alloc ?_ ?_ _) | (with_reducible refine below_after ?_ ?_ (by assumption)) | (show _ ≤ _; first | omega | (simp; done) | (simp; omega)))))).mono ?_
    rintro e w1 ⟨rfl, hb1⟩
    have hr : RowAt w1 w.heap.size 64 #[.string c.num, .string c.lab, v1, v2, .bool c.block, .bool c.mark, .int .i64 c.follow, .string c.link, .int .i64 c.loops] := (by (repeat' (first | (with_reducible assumption) | (with_reducible refine RowAt.drewN ?_ _) | (with_reducible refine RowAt.drew ?_) | (with_reducible apply RowAt.six) | (with_reducible apply RowAt.seven) | ((with_reducible refine RowAt.mk ?_ ?_); (focus (first | rfl | (simp; done))); rfl) | (with_reducible refine RowAt.alloc ?_ _) | (with_reducible refine RowAt.far ?_ ?_) | (with_reducible refine RowAt.run ?_ (by assumption)) | (with_reducible refine RowAt.below ?_ (by assumption) ?_) | (with_reducible refine RowAt.upd ?_ (by assumption) ?_) | (show _ < _; first | omega | (simp; done) | (simp; omega)) | (show ¬ _ = _; first | omega | (simp; done) | (simp; omega)) | exact rfl))); obtain ⟨hra, hrb, hrc, hrd, hre, hrf⟩ := row_facts hr
    have hbw : Below w.heap.size w w1 := by (repeat' (first | (with_reducible exact Below.refl _ _) | (with_reducible assumption) | (with_reducible refine below_run ?_ (by assumption)) | (with_reducible refine below_of_upd ?_ (by assumption) ?_) | (with_reducible refine below_drewN ?_ _) | (with_reducible refine Below.drew ?_) | (with_reducible refine below_seven ?_ ?_) | (with_reducible refine below_six ?_ ?_) | (with_reducible refine below_one ?_ ?_) | (with_reducible refine Below.alloc ?_ ?_ _) | (with_reducible refine below_after ?_ ?_ (by assumption)) | (show _ ≤ _; first | omega | (simp; done) | (simp; omega))))
    have HB := Lib.hid hbw
    clear hr hb1 hbw
    go_wp2_with fail
    refine (D.out _ HB.out).mono ?_
    rintro e w2 ⟨rfl, hb2⟩
    go_wp2
    go_ret2
    exact ⟨rfl, HB.out.trans (hb2.mono HB.out.size)⟩
  · have hr1 : (r != 0) = true := by simpa using hr0
    rw [if_neg hr0]
    go_enter Tryz.func29, Tryz.ntmps29
    go_wp2_with fail
    refine (K.out _ (by (repeat' (first | (with_reducible exact Below.refl _ _) | (with_reducible assumption) | (with_reducible refine below_run ?_ (by assumption)) | (with_reducible refine below_of_upd ?_ (by assumption) ?_) | (with_reducible refine below_drewN ?_ _) | (with_reducible refine Below.drew ?_) | (with_reducible refine below_seven ?_ ?_) | (with_reducible refine below_six ?_ ?_) | (with_reducible refine below_one ?_ ?_) | (with_reducible refine Below.alloc ?_ ?_ _) | (with_reducible refine below_after ?_ ?_ (by assumption)) | (show _ ≤ _; first | omega | (simp; done) | (simp; omega)))))).mono ?_
    rintro e w1 ⟨rfl, hb1⟩
    go_wp2
    go_ret2
    exact ⟨rfl, by (repeat' (first | (with_reducible exact Below.refl _ _) | (with_reducible assumption) | (with_reducible refine below_run ?_ (by assumption)) | (with_reducible refine below_of_upd ?_ (by assumption) ?_) | (with_reducible refine below_drewN ?_ _) | (with_reducible refine Below.drew ?_) | (with_reducible refine below_seven ?_ ?_) | (with_reducible refine below_six ?_ ?_) | (with_reducible refine below_one ?_ ?_) | (with_reducible refine Below.alloc ?_ ?_ _) | (with_reducible refine below_after ?_ ?_ (by assumption)) | (show _ ≤ _; first | omega | (simp; done) | (simp; omega))))⟩
end Go.Proofs.YtjeigphhepngmaaGreatDoor
