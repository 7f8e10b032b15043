/-
  The contract of receiving: what a device does, everyone; a message that is not for the device.
-/
import Derived.Test.YtpkhcehddfmhpaaGreatRecvB
import Derived.Test.YtpkhcehddfmhpaaGreatRecvD
namespace Go.Proofs.YtpkhcehddfmhpaaGreat
open Go.RowKit
attribute [local go_sem ↓] Go.wp_at_zero Go.wp_at_succ

set_option maxHeartbeats 1000000 in
set_option maxRecDepth 100000 in
theorem recv_actE (b : Nat) (d : Dev) (src seq kind par : Int) (dat : ByteArray) (w : World) (hd : DevAt w b d) (hchk : chkD d = 0) (hk : kind = 2 ∨ kind = 3 ∨ kind = 4 ∨ kind = 5) :
    Calls Tryz.prog 120 #[.pointer (some ⟨b, 0, none⟩), .agg #[.int .u64 281474976710655, .int .u64 src, .int .i64 seq, .int .i64 kind, .int .i64 par, .string dat]] w (RecvPost (recvD d ⟨281474976710655, src, seq, kind, par, dat⟩) b w) := by
  obtain ⟨c0, c1, c2, c3, c4, c5, c6, cf, l1, l2, l3, l4, l5⟩ := dev_facts hd
  have l6 : b < w.heap.size + 2 := by omega
  have l7 : b < w.heap.size + 3 := by omega
  have hid := isId_of_chk d hchk
  have hfine := fine_of_chk d hchk
  have n1 : ((281474976710655 : Int) != d.id) = true := by simp; intro h; rw [← h] at hid; simp [isId] at hid
  have k1 : (kind == 1) = false := by simp; omega
  have k6 : (kind == 6) = false := by simp; omega
  have k7 : (kind == 7) = false := by simp; omega
  obtain ⟨q2, h2⟩ : ∃ q, (kind == 2) = q := ⟨_, rfl⟩
  obtain ⟨q3, h3⟩ : ∃ q, (kind == 3) = q := ⟨_, rfl⟩
  obtain ⟨q4, h4⟩ : ∃ q, (kind == 4) = q := ⟨_, rfl⟩
  obtain ⟨q5, h5⟩ : ∃ q, (kind == 5) = q := ⟨_, rfl⟩
  have HI := Lib.hid hid
  have HK := Lib.hid hk
  clear hid hk
  go_enter Tryz.func120, Tryz.ntmps120
  go_wp2
  go_quiet (fail)
  go_upto_block 0 with fail
  go_cut [6, 7] (fun s6 s7 wx => ∃ (d' : Dev) (s : ByteArray) (r : Int), s6 = .string s ∧ s7 = .int .i64 r ∧ Hid (doneD d ⟨281474976710655, src, seq, kind, par, dat⟩ = (d', s, r)) ∧ DevAt wx b d' ∧ MsgAt wx w.heap.size ⟨281474976710655, src, seq, kind, par, dat⟩ ∧ MsgAt wx (w.heap.size + 1) zeroM ∧ Upd b w wx)
  case first =>
    go_wp2_with (first | (go_at_call 160; refine (read_any _ d _ _ (by (repeat' (first | (with_reducible assumption) | (with_reducible refine DevAt.drewN ?_ _) | (with_reducible refine DevAt.drew ?_) | ((with_reducible refine MsgAt.mk ?_ ?_); (focus (first | rfl | (simp; done))); rfl) | ((with_reducible refine DevAt.mk ?_ ?_); (focus (first | rfl | (simp; done))); rfl) | (with_reducible refine DevAt.alloc ?_ _) | (with_reducible refine DevAt.far ?_ ?_) | (with_reducible refine DevAt.below ?_ (by assumption) ?_) | (with_reducible refine MsgAt.drewN ?_ _) | (with_reducible refine MsgAt.drew ?_) | (with_reducible refine MsgAt.alloc ?_ _) | (with_reducible refine MsgAt.far ?_ ?_) | (with_reducible refine MsgAt.below ?_ (by assumption) ?_) | (show _ < _; first | omega | (simp; done) | (simp; omega)) | (show _ ≠ _; first | omega | (simp; done) | (simp; omega)) | exact rfl))) hfine).mono ?_; rintro e w1 ⟨s, n, rfl, hr, hb⟩) | (go_at_call 161; refine (write_any _ d _ _ _ (by (repeat' (first | (with_reducible assumption) | (with_reducible refine DevAt.drewN ?_ _) | (with_reducible refine DevAt.drew ?_) | ((with_reducible refine MsgAt.mk ?_ ?_); (focus (first | rfl | (simp; done))); rfl) | ((with_reducible refine DevAt.mk ?_ ?_); (focus (first | rfl | (simp; done))); rfl) | (with_reducible refine DevAt.alloc ?_ _) | (with_reducible refine DevAt.far ?_ ?_) | (with_reducible refine DevAt.below ?_ (by assumption) ?_) | (with_reducible refine MsgAt.drewN ?_ _) | (with_reducible refine MsgAt.drew ?_) | (with_reducible refine MsgAt.alloc ?_ _) | (with_reducible refine MsgAt.far ?_ ?_) | (with_reducible refine MsgAt.below ?_ (by assumption) ?_) | (show _ < _; first | omega | (simp; done) | (simp; omega)) | (show _ ≠ _; first | omega | (simp; done) | (simp; omega)) | exact rfl))) hfine).mono ?_; rintro e w1 ⟨rfl, hd2, hu⟩))
    all_goals first
      | (exfalso; have a1 : q2 = true := by assumption
         have a2 : q2 = false := by assumption
         exact bool_no a1 a2)
      | go_meet
    · have e : kind = 2 := eq_of_beq (h2.trans (by assumption))
      refine ⟨{ d with mu := true }, ⟨#[]⟩, -1, rfl, rfl, ?_, ?_, by (repeat' (first | (with_reducible assumption) | (with_reducible refine DevAt.drewN ?_ _) | (with_reducible refine DevAt.drew ?_) | ((with_reducible refine MsgAt.mk ?_ ?_); (focus (first | rfl | (simp; done))); rfl) | ((with_reducible refine DevAt.mk ?_ ?_); (focus (first | rfl | (simp; done))); rfl) | (with_reducible refine DevAt.alloc ?_ _) | (with_reducible refine DevAt.far ?_ ?_) | (with_reducible refine DevAt.below ?_ (by assumption) ?_) | (with_reducible refine MsgAt.drewN ?_ _) | (with_reducible refine MsgAt.drew ?_) | (with_reducible refine MsgAt.alloc ?_ _) | (with_reducible refine MsgAt.far ?_ ?_) | (with_reducible refine MsgAt.below ?_ (by assumption) ?_) | (show _ < _; first | omega | (simp; done) | (simp; omega)) | (show _ ≠ _; first | omega | (simp; done) | (simp; omega)) | exact rfl)), by (repeat' (first | (with_reducible assumption) | (with_reducible refine DevAt.drewN ?_ _) | (with_reducible refine DevAt.drew ?_) | ((with_reducible refine MsgAt.mk ?_ ?_); (focus (first | rfl | (simp; done))); rfl) | ((with_reducible refine DevAt.mk ?_ ?_); (focus (first | rfl | (simp; done))); rfl) | (with_reducible refine DevAt.alloc ?_ _) | (with_reducible refine DevAt.far ?_ ?_) | (with_reducible refine DevAt.below ?_ (by assumption) ?_) | (with_reducible refine MsgAt.drewN ?_ _) | (with_reducible refine MsgAt.drew ?_) | (with_reducible refine MsgAt.alloc ?_ _) | (with_reducible refine MsgAt.far ?_ ?_) | (with_reducible refine MsgAt.below ?_ (by assumption) ?_) | (show _ < _; first | omega | (simp; done) | (simp; omega)) | (show _ ≠ _; first | omega | (simp; done) | (simp; omega)) | exact rfl)), by (repeat' (first | (with_reducible exact upd_refl _ _) | (with_reducible assumption) | (with_reducible refine upd_drewN ?_ _) | (with_reducible refine upd_drew ?_) | (with_reducible refine upd_set ?_ _ _) | (with_reducible refine upd_far ?_ ?_ _) | (with_reducible refine upd_alloc ?_ _) | (with_reducible refine upd_below ?_ (by assumption)) | (with_reducible refine upd_upd ?_ (by assumption)) | (show _ ≤ _; first | omega | (simp; done) | (simp; omega))))⟩
      · subst e; rfl
      · refine DevAt.set (d := d) ?_ rfl; (repeat' (first | (with_reducible assumption) | (with_reducible refine DevAt.drewN ?_ _) | (with_reducible refine DevAt.drew ?_) | ((with_reducible refine MsgAt.mk ?_ ?_); (focus (first | rfl | (simp; done))); rfl) | ((with_reducible refine DevAt.mk ?_ ?_); (focus (first | rfl | (simp; done))); rfl) | (with_reducible refine DevAt.alloc ?_ _) | (with_reducible refine DevAt.far ?_ ?_) | (with_reducible refine DevAt.below ?_ (by assumption) ?_) | (with_reducible refine MsgAt.drewN ?_ _) | (with_reducible refine MsgAt.drew ?_) | (with_reducible refine MsgAt.alloc ?_ _) | (with_reducible refine MsgAt.far ?_ ?_) | (with_reducible refine MsgAt.below ?_ (by assumption) ?_) | (show _ < _; first | omega | (simp; done) | (simp; omega)) | (show _ ≠ _; first | omega | (simp; done) | (simp; omega)) | exact rfl))
    · have e : kind = 3 := eq_of_beq (h3.trans (by assumption))
      refine ⟨{ d with mu := false }, ⟨#[]⟩, -1, rfl, rfl, ?_, ?_, by (repeat' (first | (with_reducible assumption) | (with_reducible refine DevAt.drewN ?_ _) | (with_reducible refine DevAt.drew ?_) | ((with_reducible refine MsgAt.mk ?_ ?_); (focus (first | rfl | (simp; done))); rfl) | ((with_reducible refine DevAt.mk ?_ ?_); (focus (first | rfl | (simp; done))); rfl) | (with_reducible refine DevAt.alloc ?_ _) | (with_reducible refine DevAt.far ?_ ?_) | (with_reducible refine DevAt.below ?_ (by assumption) ?_) | (with_reducible refine MsgAt.drewN ?_ _) | (with_reducible refine MsgAt.drew ?_) | (with_reducible refine MsgAt.alloc ?_ _) | (with_reducible refine MsgAt.far ?_ ?_) | (with_reducible refine MsgAt.below ?_ (by assumption) ?_) | (show _ < _; first | omega | (simp; done) | (simp; omega)) | (show _ ≠ _; first | omega | (simp; done) | (simp; omega)) | exact rfl)), by (repeat' (first | (with_reducible assumption) | (with_reducible refine DevAt.drewN ?_ _) | (with_reducible refine DevAt.drew ?_) | ((with_reducible refine MsgAt.mk ?_ ?_); (focus (first | rfl | (simp; done))); rfl) | ((with_reducible refine DevAt.mk ?_ ?_); (focus (first | rfl | (simp; done))); rfl) | (with_reducible refine DevAt.alloc ?_ _) | (with_reducible refine DevAt.far ?_ ?_) | (with_reducible refine DevAt.below ?_ (by assumption) ?_) | (with_reducible refine MsgAt.drewN ?_ _) | (with_reducible refine MsgAt.drew ?_) | (with_reducible refine MsgAt.alloc ?_ _) | (with_reducible refine MsgAt.far ?_ ?_) | (with_reducible refine MsgAt.below ?_ (by assumption) ?_) | (show _ < _; first | omega | (simp; done) | (simp; omega)) | (show _ ≠ _; first | omega | (simp; done) | (simp; omega)) | exact rfl)), by (repeat' (first | (with_reducible exact upd_refl _ _) | (with_reducible assumption) | (with_reducible refine upd_drewN ?_ _) | (with_reducible refine upd_drew ?_) | (with_reducible refine upd_set ?_ _ _) | (with_reducible refine upd_far ?_ ?_ _) | (with_reducible refine upd_alloc ?_ _) | (with_reducible refine upd_below ?_ (by assumption)) | (with_reducible refine upd_upd ?_ (by assumption)) | (show _ ≤ _; first | omega | (simp; done) | (simp; omega))))⟩
      · subst e; rfl
      · refine DevAt.set (d := d) ?_ rfl; (repeat' (first | (with_reducible assumption) | (with_reducible refine DevAt.drewN ?_ _) | (with_reducible refine DevAt.drew ?_) | ((with_reducible refine MsgAt.mk ?_ ?_); (focus (first | rfl | (simp; done))); rfl) | ((with_reducible refine DevAt.mk ?_ ?_); (focus (first | rfl | (simp; done))); rfl) | (with_reducible refine DevAt.alloc ?_ _) | (with_reducible refine DevAt.far ?_ ?_) | (with_reducible refine DevAt.below ?_ (by assumption) ?_) | (with_reducible refine MsgAt.drewN ?_ _) | (with_reducible refine MsgAt.drew ?_) | (with_reducible refine MsgAt.alloc ?_ _) | (with_reducible refine MsgAt.far ?_ ?_) | (with_reducible refine MsgAt.below ?_ (by assumption) ?_) | (show _ < _; first | omega | (simp; done) | (simp; omega)) | (show _ ≠ _; first | omega | (simp; done) | (simp; omega)) | exact rfl))
    · have e : kind = 4 := eq_of_beq (h4.trans (by assumption))
      refine ⟨d, s, n, rfl, rfl, ?_, by (repeat' (first | (with_reducible assumption) | (with_reducible refine DevAt.drewN ?_ _) | (with_reducible refine DevAt.drew ?_) | ((with_reducible refine MsgAt.mk ?_ ?_); (focus (first | rfl | (simp; done))); rfl) | ((with_reducible refine DevAt.mk ?_ ?_); (focus (first | rfl | (simp; done))); rfl) | (with_reducible refine DevAt.alloc ?_ _) | (with_reducible refine DevAt.far ?_ ?_) | (with_reducible refine DevAt.below ?_ (by assumption) ?_) | (with_reducible refine MsgAt.drewN ?_ _) | (with_reducible refine MsgAt.drew ?_) | (with_reducible refine MsgAt.alloc ?_ _) | (with_reducible refine MsgAt.far ?_ ?_) | (with_reducible refine MsgAt.below ?_ (by assumption) ?_) | (show _ < _; first | omega | (simp; done) | (simp; omega)) | (show _ ≠ _; first | omega | (simp; done) | (simp; omega)) | exact rfl)), by (repeat' (first | (with_reducible assumption) | (with_reducible refine DevAt.drewN ?_ _) | (with_reducible refine DevAt.drew ?_) | ((with_reducible refine MsgAt.mk ?_ ?_); (focus (first | rfl | (simp; done))); rfl) | ((with_reducible refine DevAt.mk ?_ ?_); (focus (first | rfl | (simp; done))); rfl) | (with_reducible refine DevAt.alloc ?_ _) | (with_reducible refine DevAt.far ?_ ?_) | (with_reducible refine DevAt.below ?_ (by assumption) ?_) | (with_reducible refine MsgAt.drewN ?_ _) | (with_reducible refine MsgAt.drew ?_) | (with_reducible refine MsgAt.alloc ?_ _) | (with_reducible refine MsgAt.far ?_ ?_) | (with_reducible refine MsgAt.below ?_ (by assumption) ?_) | (show _ < _; first | omega | (simp; done) | (simp; omega)) | (show _ ≠ _; first | omega | (simp; done) | (simp; omega)) | exact rfl)), by (repeat' (first | (with_reducible assumption) | (with_reducible refine DevAt.drewN ?_ _) | (with_reducible refine DevAt.drew ?_) | ((with_reducible refine MsgAt.mk ?_ ?_); (focus (first | rfl | (simp; done))); rfl) | ((with_reducible refine DevAt.mk ?_ ?_); (focus (first | rfl | (simp; done))); rfl) | (with_reducible refine DevAt.alloc ?_ _) | (with_reducible refine DevAt.far ?_ ?_) | (with_reducible refine DevAt.below ?_ (by assumption) ?_) | (with_reducible refine MsgAt.drewN ?_ _) | (with_reducible refine MsgAt.drew ?_) | (with_reducible refine MsgAt.alloc ?_ _) | (with_reducible refine MsgAt.far ?_ ?_) | (with_reducible refine MsgAt.below ?_ (by assumption) ?_) | (show _ < _; first | omega | (simp; done) | (simp; omega)) | (show _ ≠ _; first | omega | (simp; done) | (simp; omega)) | exact rfl)), by (repeat' (first | (with_reducible exact upd_refl _ _) | (with_reducible assumption) | (with_reducible refine upd_drewN ?_ _) | (with_reducible refine upd_drew ?_) | (with_reducible refine upd_set ?_ _ _) | (with_reducible refine upd_far ?_ ?_ _) | (with_reducible refine upd_alloc ?_ _) | (with_reducible refine upd_below ?_ (by assumption)) | (with_reducible refine upd_upd ?_ (by assumption)) | (show _ ≤ _; first | omega | (simp; done) | (simp; omega))))⟩
      subst e
      show doneD d _ = _
      simp [doneD, hr.out]
    · have e : kind = 5 := eq_of_beq (h5.trans (by assumption))
      refine ⟨(putD d par dat).1, ⟨#[]⟩, (putD d par dat).2, rfl, rfl, ?_, by (repeat' (first | (with_reducible assumption) | (with_reducible refine DevAt.drewN ?_ _) | (with_reducible refine DevAt.drew ?_) | ((with_reducible refine MsgAt.mk ?_ ?_); (focus (first | rfl | (simp; done))); rfl) | ((with_reducible refine DevAt.mk ?_ ?_); (focus (first | rfl | (simp; done))); rfl) | (with_reducible refine DevAt.alloc ?_ _) | (with_reducible refine DevAt.far ?_ ?_) | (with_reducible refine DevAt.below ?_ (by assumption) ?_) | (with_reducible refine MsgAt.drewN ?_ _) | (with_reducible refine MsgAt.drew ?_) | (with_reducible refine MsgAt.alloc ?_ _) | (with_reducible refine MsgAt.far ?_ ?_) | (with_reducible refine MsgAt.below ?_ (by assumption) ?_) | (show _ < _; first | omega | (simp; done) | (simp; omega)) | (show _ ≠ _; first | omega | (simp; done) | (simp; omega)) | exact rfl)), ?_, ?_, by (repeat' (first | (with_reducible exact upd_refl _ _) | (with_reducible assumption) | (with_reducible refine upd_drewN ?_ _) | (with_reducible refine upd_drew ?_) | (with_reducible refine upd_set ?_ _ _) | (with_reducible refine upd_far ?_ ?_ _) | (with_reducible refine upd_alloc ?_ _) | (with_reducible refine upd_below ?_ (by assumption)) | (with_reducible refine upd_upd ?_ (by assumption)) | (show _ ≤ _; first | omega | (simp; done) | (simp; omega))))⟩
      · subst e
        show doneD d _ = _
        simp [doneD]
      · exact MsgAt.upd (by (repeat' (first | (with_reducible assumption) | (with_reducible refine DevAt.drewN ?_ _) | (with_reducible refine DevAt.drew ?_) | ((with_reducible refine MsgAt.mk ?_ ?_); (focus (first | rfl | (simp; done))); rfl) | ((with_reducible refine DevAt.mk ?_ ?_); (focus (first | rfl | (simp; done))); rfl) | (with_reducible refine DevAt.alloc ?_ _) | (with_reducible refine DevAt.far ?_ ?_) | (with_reducible refine DevAt.below ?_ (by assumption) ?_) | (with_reducible refine MsgAt.drewN ?_ _) | (with_reducible refine MsgAt.drew ?_) | (with_reducible refine MsgAt.alloc ?_ _) | (with_reducible refine MsgAt.far ?_ ?_) | (with_reducible refine MsgAt.below ?_ (by assumption) ?_) | (show _ < _; first | omega | (simp; done) | (simp; omega)) | (show _ ≠ _; first | omega | (simp; done) | (simp; omega)) | exact rfl))) hu (by omega)
      · exact MsgAt.upd (by (repeat' (first | (with_reducible assumption) | (with_reducible refine DevAt.drewN ?_ _) | (with_reducible refine DevAt.drew ?_) | ((with_reducible refine MsgAt.mk ?_ ?_); (focus (first | rfl | (simp; done))); rfl) | ((with_reducible refine DevAt.mk ?_ ?_); (focus (first | rfl | (simp; done))); rfl) | (with_reducible refine DevAt.alloc ?_ _) | (with_reducible refine DevAt.far ?_ ?_) | (with_reducible refine DevAt.below ?_ (by assumption) ?_) | (with_reducible refine MsgAt.drewN ?_ _) | (with_reducible refine MsgAt.drew ?_) | (with_reducible refine MsgAt.alloc ?_ _) | (with_reducible refine MsgAt.far ?_ ?_) | (with_reducible refine MsgAt.below ?_ (by assumption) ?_) | (show _ < _; first | omega | (simp; done) | (simp; omega)) | (show _ ≠ _; first | omega | (simp; done) | (simp; omega)) | exact rfl))) hu (by omega)
    · exfalso
      have e2 : kind ≠ 2 := ne_of_beq (h2.trans (by assumption))
      have e3 : kind ≠ 3 := ne_of_beq (h3.trans (by assumption))
      have e4 : kind ≠ 4 := ne_of_beq (h4.trans (by assumption))
      have e5 : kind ≠ 5 := ne_of_beq (h5.trans (by assumption))
      have hk := HK.out
      omega
  case rest =>
    obtain ⟨d', s, r, rfl, rfl, HD, hdv, hmv, hzv, hu⟩ := hcut
    have hrecv : recvD d ⟨281474976710655, src, seq, kind, par, dat⟩ = (d', zeroM, false) := by
      rw [recvD, if_neg (by have hk := HK.out; simp [deafD]; omega), if_neg (by simpa using k1), if_pos rfl, HD.out]
    have HRV := Lib.hid hrecv
    clear hrecv
    obtain ⟨p1, p2, p3, p4, p5, p6⟩ := dev_facts2 hdv
    obtain ⟨v1, v2, v3, v4, v5, v6⟩ := msg_facts hmv
    obtain ⟨r1, r2, r3, r4, r5, r6⟩ := msg_facts hzv
    go_wp2
    rw [HRV.out]
    refine bodyPost_ret (v := .tuple #[msgV zeroM, .bool false]) ?_ rfl ⟨rfl, by (repeat' (first | (with_reducible assumption) | (with_reducible refine DevAt.drewN ?_ _) | (with_reducible refine DevAt.drew ?_) | ((with_reducible refine MsgAt.mk ?_ ?_); (focus (first | rfl | (simp; done))); rfl) | ((with_reducible refine DevAt.mk ?_ ?_); (focus (first | rfl | (simp; done))); rfl) | (with_reducible refine DevAt.alloc ?_ _) | (with_reducible refine DevAt.far ?_ ?_) | (with_reducible refine DevAt.below ?_ (by assumption) ?_) | (with_reducible refine MsgAt.drewN ?_ _) | (with_reducible refine MsgAt.drew ?_) | (with_reducible refine MsgAt.alloc ?_ _) | (with_reducible refine MsgAt.far ?_ ?_) | (with_reducible refine MsgAt.below ?_ (by assumption) ?_) | (show _ < _; first | omega | (simp; done) | (simp; omega)) | (show _ ≠ _; first | omega | (simp; done) | (simp; omega)) | exact rfl)), by (repeat' (first | (with_reducible exact upd_refl _ _) | (with_reducible assumption) | (with_reducible refine upd_drewN ?_ _) | (with_reducible refine upd_drew ?_) | (with_reducible refine upd_set ?_ _ _) | (with_reducible refine upd_far ?_ ?_ _) | (with_reducible refine upd_alloc ?_ _) | (with_reducible refine upd_below ?_ (by assumption)) | (with_reducible refine upd_upd ?_ (by assumption)) | (show _ ≤ _; first | omega | (simp; done) | (simp; omega))))⟩
    simp [results, Tryz.results120, go_sem, zeroM, *]

set_option maxHeartbeats 1000000 in
set_option maxRecDepth 100000 in
theorem recv_deaf (b : Nat) (d : Dev) (dst src seq kind par : Int) (dat : ByteArray) (w : World) (hd : DevAt w b d) (hk : deafD d ⟨dst, src, seq, kind, par, dat⟩ = true) :
    Calls Tryz.prog 120 #[.pointer (some ⟨b, 0, none⟩), .agg #[.int .u64 dst, .int .u64 src, .int .i64 seq, .int .i64 kind, .int .i64 par, .string dat]] w (RecvPost (recvD d ⟨dst, src, seq, kind, par, dat⟩) b w) := by
  obtain ⟨c0, c1, c2, c3, c4, c5, c6, cf, l1, l2, l3, l4, l5⟩ := dev_facts hd
  have l6 : b < w.heap.size + 2 := by omega
  have l7 : b < w.heap.size + 3 := by omega
  have hr : recvD d ⟨dst, src, seq, kind, par, dat⟩ = (d, zeroM, false) := by rw [recvD, if_pos hk]
  rw [hr]
  clear hr
  have hk' : (dst ≠ d.id ∧ dst ≠ 281474976710655) ∨ kind = 6 ∨ kind = 7 := by simpa [deafD] using hk
  clear hk
  obtain ⟨q1, h1⟩ : ∃ q, (dst != d.id) = q := ⟨_, rfl⟩
  obtain ⟨q2, h2⟩ : ∃ q, (dst != 281474976710655) = q := ⟨_, rfl⟩
  obtain ⟨q6, h6⟩ : ∃ q, (kind == 6) = q := ⟨_, rfl⟩
  obtain ⟨q7, h7⟩ : ∃ q, (kind == 7) = q := ⟨_, rfl⟩
  have hq : (q1 = true ∧ q2 = true) ∨ q6 = true ∨ q7 = true := by
    rw [← h1, ← h2, ← h6, ← h7]; simpa using hk'
  clear hk'
  cases q1 <;> cases q2 <;> cases q6 <;> cases q7 <;> first | (exfalso; simp at hq; done) | skip
  all_goals (clear hq; skip)
  all_goals
    go_enter Tryz.func120, Tryz.ntmps120
    go_wp2
    go_quiet (fail)
    go_wp2
    refine bodyPost_ret (v := .tuple #[msgV zeroM, .bool false]) ?_ rfl ⟨rfl, by (repeat' (first | (with_reducible assumption) | (with_reducible refine DevAt.drewN ?_ _) | (with_reducible refine DevAt.drew ?_) | ((with_reducible refine MsgAt.mk ?_ ?_); (focus (first | rfl | (simp; done))); rfl) | ((with_reducible refine DevAt.mk ?_ ?_); (focus (first | rfl | (simp; done))); rfl) | (with_reducible refine DevAt.alloc ?_ _) | (with_reducible refine DevAt.far ?_ ?_) | (with_reducible refine DevAt.below ?_ (by assumption) ?_) | (with_reducible refine MsgAt.drewN ?_ _) | (with_reducible refine MsgAt.drew ?_) | (with_reducible refine MsgAt.alloc ?_ _) | (with_reducible refine MsgAt.far ?_ ?_) | (with_reducible refine MsgAt.below ?_ (by assumption) ?_) | (show _ < _; first | omega | (simp; done) | (simp; omega)) | (show _ ≠ _; first | omega | (simp; done) | (simp; omega)) | exact rfl)), by (repeat' (first | (with_reducible exact upd_refl _ _) | (with_reducible assumption) | (with_reducible refine upd_drewN ?_ _) | (with_reducible refine upd_drew ?_) | (with_reducible refine upd_set ?_ _ _) | (with_reducible refine upd_far ?_ ?_ _) | (with_reducible refine upd_alloc ?_ _) | (with_reducible refine upd_below ?_ (by assumption)) | (with_reducible refine upd_upd ?_ (by assumption)) | (show _ ≤ _; first | omega | (simp; done) | (simp; omega))))⟩
    simp [results, Tryz.results120, go_sem, zeroM, *]

theorem recv_any (b : Nat) (d : Dev) (dst src seq kind par : Int) (dat : ByteArray) (w : World) (hd : DevAt w b d) (hchk : chkD d = 0) (hm : chk ⟨dst, src, seq, kind, par, dat⟩ = 0) :
    Calls Tryz.prog 120 #[.pointer (some ⟨b, 0, none⟩), .agg #[.int .u64 dst, .int .u64 src, .int .i64 seq, .int .i64 kind, .int .i64 par, .string dat]] w (RecvPost (recvD d ⟨dst, src, seq, kind, par, dat⟩) b w) := by
  by_cases hk : deafD d ⟨dst, src, seq, kind, par, dat⟩ = true
  · exact recv_deaf b d dst src seq kind par dat w hd hk
  · have hk' : ¬ ((dst ≠ d.id ∧ dst ≠ 281474976710655) ∨ kind = 6 ∨ kind = 7) := by simpa [deafD] using hk
    have hkind : 1 ≤ kind ∧ kind ≤ 7 := by grind [chk]
    by_cases h1 : kind = 1
    · subst h1
      by_cases he : dst = 281474976710655
      · subst he
        exact recv_seekE b d src seq par dat w hd hchk hm
      · have e : dst = d.id := by omega
        subst e
        exact recv_seekD b d src seq par dat w hd hchk hm
    · have hk2 : kind = 2 ∨ kind = 3 ∨ kind = 4 ∨ kind = 5 := by omega
      by_cases he : dst = 281474976710655
      · subst he
        exact recv_actE b d src seq kind par dat w hd hchk hk2
      · have e : dst = d.id := by omega
        subst e
        exact recv_actD b d src seq kind par dat w hd hchk hm hk2

end Go.Proofs.YtpkhcehddfmhpaaGreat
