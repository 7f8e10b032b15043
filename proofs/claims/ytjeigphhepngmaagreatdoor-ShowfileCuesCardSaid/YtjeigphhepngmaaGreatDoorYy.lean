/-
  The reader that goes on: the reference's methods.
  The reader that goes on: parameters, moves, times.
-/
import Derived.Test.YtjeigphhepngmaaGreatDoorYw
namespace Go.Proofs.YtjeigphhepngmaaGreatDoor
open Go.RowKit

/-- The reference's reader in memory. -/
def RRd (w : World) (b : Nat) (s : ByteArray) (st : RS) : Prop := RowAt w b 139 #[.string s, .int .i64 (st.at_ : Int), .bool st.bad]
/-- What a method of the reader says: its value, the reader anew, all else as it was. -/
def QPost (b : Nat) (s : ByteArray) (v : Value) (st' : RS) (w : World) (e : Ending) (w' : World) : Prop := e = .returned v ∧ RRd w' b s st' ∧ Upd b w w'
theorem RRd.run {w w' : World} {b : Nat} {s : ByteArray} {st : RS} (h : RRd w b s st) (hb : Below w.heap.size w w') : RRd w' b s st := RowAt.run h hb

set_option maxHeartbeats 4000000 in
set_option maxRecDepth 100000 in
theorem qint_any (b : Nat) (s : ByteArray) (st : RS) (w : World) (h : RRd w b s st) (ha : st.at_ ≤ s.size) (hs : s.size ≤ 1000000) :
    Calls Tryz.prog 133 #[.pointer (some ⟨b, 0, none⟩)] w fun e w' => QPost b s (.int .i64 (qI s st).1) (qI s st).2 w e w' := by
  obtain ⟨a, bad⟩ := st
  have G := fun W => rgetint_any s a W ha hs
  obtain ⟨x1, x2, x3, x4, x5, x6⟩ := row_facts h
  simp only at x1
  cases hx : getI s a with
  | error c =>
    have hc : c = 20 ∨ c = 3 := getI_err hx
    have hc0 : (c != 0) = true := by rw [bne_iff_ne]; omega
    have HQ := Lib.hid (show qI s ⟨a, bad⟩ = (0, ⟨a, true⟩) from by simp [qI, hx])
    rw [hx] at G
    simp only [intV] at G
    have K := Lib.hid G
    have hset : ∀ m, RRd ((w.drewN m).setCell ⟨b, 2, none⟩ (.bool true)) b s ⟨a, true⟩ := fun m => RowAt.set (RowAt.drewN h m) rfl
    have hupd : ∀ m, Upd b w ((w.drewN m).setCell ⟨b, 2, none⟩ (.bool true)) := fun m => upd_set (upd_drewN (upd_refl _ _) m) _ _
    have HS := Lib.hid (And.intro hset hupd)
    clear hx G h hset hupd
    cases bad with
    | true =>
      go_enter Tryz.func133, Tryz.ntmps133
      go_wp2
      go_quiet ((go_at_call 230; exact Calls.quiet_of_same ((K.out _).mono fun _ _ ⟨h1, h2⟩ => ⟨h1, h2.symm⟩)))
      go_wp2
      go_ret
      exact ⟨(by rw [HQ.out]; rfl), (by rw [HQ.out]; exact HS.out.1 _), (by exact HS.out.2 _)⟩
    | false =>
      go_enter Tryz.func133, Tryz.ntmps133
      go_wp2
      go_quiet ((go_at_call 230; exact Calls.quiet_of_same ((K.out _).mono fun _ _ ⟨h1, h2⟩ => ⟨h1, h2.symm⟩)))
      go_wp2
      go_ret
      exact ⟨(by rw [HQ.out]; rfl), (by rw [HQ.out]; exact HS.out.1 _), (by exact HS.out.2 _)⟩
  | ok y =>
    obtain ⟨n, nx⟩ := y
    rw [hx] at G
    simp only [intV] at G
    have K := Lib.hid G
    cases bad with
    | true =>
      have HQ := Lib.hid (show qI s ⟨a, true⟩ = (0, ⟨a, true⟩) from by simp [qI, hx])
      have hset : ∀ m, RRd ((w.drewN m).setCell ⟨b, 2, none⟩ (.bool true)) b s ⟨a, true⟩ := fun m => RowAt.set (RowAt.drewN h m) rfl
      have hupd : ∀ m, Upd b w ((w.drewN m).setCell ⟨b, 2, none⟩ (.bool true)) := fun m => upd_set (upd_drewN (upd_refl _ _) m) _ _
      have HS := Lib.hid (And.intro hset hupd)
      clear hx G h hset hupd
      go_enter Tryz.func133, Tryz.ntmps133
      go_wp2
      go_quiet ((go_at_call 230; exact Calls.quiet_of_same ((K.out _).mono fun _ _ ⟨h1, h2⟩ => ⟨h1, h2.symm⟩)))
      go_wp2
      go_ret
      exact ⟨(by rw [HQ.out]; rfl), (by rw [HQ.out]; exact HS.out.1 _), (by exact HS.out.2 _)⟩
    | false =>
      have HQ := Lib.hid (show qI s ⟨a, false⟩ = (n, ⟨nx, false⟩) from by simp [qI, hx])
      have hset : ∀ m, RRd ((w.drewN m).setCell ⟨b, 1, none⟩ (.int .i64 (nx : Int))) b s ⟨nx, false⟩ := fun m => RowAt.set (RowAt.drewN h m) rfl
      have hupd : ∀ m, Upd b w ((w.drewN m).setCell ⟨b, 1, none⟩ (.int .i64 (nx : Int))) := fun m => upd_set (upd_drewN (upd_refl _ _) m) _ _
      have HS := Lib.hid (And.intro hset hupd)
      clear hx G h hset hupd
      go_enter Tryz.func133, Tryz.ntmps133
      go_wp2
      go_quiet ((go_at_call 230; exact Calls.quiet_of_same ((K.out _).mono fun _ _ ⟨h1, h2⟩ => ⟨h1, h2.symm⟩)))
      go_wp2
      go_ret
      exact ⟨(by rw [HQ.out]; rfl), (by rw [HQ.out]; exact HS.out.1 _), (by exact HS.out.2 _)⟩

set_option maxHeartbeats 4000000 in
set_option maxRecDepth 100000 in
theorem qtext_any (b : Nat) (s : ByteArray) (st : RS) (w : World) (h : RRd w b s st) (ha : st.at_ ≤ s.size) (hs : s.size ≤ 1000000) :
    Calls Tryz.prog 134 #[.pointer (some ⟨b, 0, none⟩)] w fun e w' => QPost b s (.string (qT s st).1) (qT s st).2 w e w' := by
  obtain ⟨a, bad⟩ := st
  have G := fun W => rgettext_any s a W ha hs
  obtain ⟨x1, x2, x3, x4, x5, x6⟩ := row_facts h
  simp only at x1
  cases hx : getT s a with
  | error c =>
    have hc : c = 20 ∨ c = 3 := getT_err hx
    have hc0 : (c != 0) = true := by rw [bne_iff_ne]; omega
    have HQ := Lib.hid (show qT s ⟨a, bad⟩ = (⟨#[]⟩, ⟨a, true⟩) from by simp [qT, hx])
    rw [hx] at G
    simp only [textV] at G
    have K := Lib.hid G
    have hset : ∀ m, RRd ((w.drewN m).setCell ⟨b, 2, none⟩ (.bool true)) b s ⟨a, true⟩ := fun m => RowAt.set (RowAt.drewN h m) rfl
    have hupd : ∀ m, Upd b w ((w.drewN m).setCell ⟨b, 2, none⟩ (.bool true)) := fun m => upd_set (upd_drewN (upd_refl _ _) m) _ _
    have HS := Lib.hid (And.intro hset hupd)
    clear hx G h hset hupd
    cases bad with
    | true =>
      go_enter Tryz.func134, Tryz.ntmps134
      go_wp2
      go_quiet ((go_at_call 231; exact Calls.quiet_of_same ((K.out _).mono fun _ _ ⟨h1, h2⟩ => ⟨h1, h2.symm⟩)))
      go_wp2
      go_ret
      exact ⟨(by rw [HQ.out]; rfl), (by rw [HQ.out]; exact HS.out.1 _), (by exact HS.out.2 _)⟩
    | false =>
      go_enter Tryz.func134, Tryz.ntmps134
      go_wp2
      go_quiet ((go_at_call 231; exact Calls.quiet_of_same ((K.out _).mono fun _ _ ⟨h1, h2⟩ => ⟨h1, h2.symm⟩)))
      go_wp2
      go_ret
      exact ⟨(by rw [HQ.out]; rfl), (by rw [HQ.out]; exact HS.out.1 _), (by exact HS.out.2 _)⟩
  | ok y =>
    obtain ⟨n, nx⟩ := y
    rw [hx] at G
    simp only [textV] at G
    have K := Lib.hid G
    cases bad with
    | true =>
      have HQ := Lib.hid (show qT s ⟨a, true⟩ = (⟨#[]⟩, ⟨a, true⟩) from by simp [qT, hx])
      have hset : ∀ m, RRd ((w.drewN m).setCell ⟨b, 2, none⟩ (.bool true)) b s ⟨a, true⟩ := fun m => RowAt.set (RowAt.drewN h m) rfl
      have hupd : ∀ m, Upd b w ((w.drewN m).setCell ⟨b, 2, none⟩ (.bool true)) := fun m => upd_set (upd_drewN (upd_refl _ _) m) _ _
      have HS := Lib.hid (And.intro hset hupd)
      clear hx G h hset hupd
      go_enter Tryz.func134, Tryz.ntmps134
      go_wp2
      go_quiet ((go_at_call 231; exact Calls.quiet_of_same ((K.out _).mono fun _ _ ⟨h1, h2⟩ => ⟨h1, h2.symm⟩)))
      go_wp2
      go_ret
      exact ⟨(by rw [HQ.out]; rfl), (by rw [HQ.out]; exact HS.out.1 _), (by exact HS.out.2 _)⟩
    | false =>
      have HQ := Lib.hid (show qT s ⟨a, false⟩ = (n, ⟨nx, false⟩) from by simp [qT, hx])
      have hset : ∀ m, RRd ((w.drewN m).setCell ⟨b, 1, none⟩ (.int .i64 (nx : Int))) b s ⟨nx, false⟩ := fun m => RowAt.set (RowAt.drewN h m) rfl
      have hupd : ∀ m, Upd b w ((w.drewN m).setCell ⟨b, 1, none⟩ (.int .i64 (nx : Int))) := fun m => upd_set (upd_drewN (upd_refl _ _) m) _ _
      have HS := Lib.hid (And.intro hset hupd)
      clear hx G h hset hupd
      go_enter Tryz.func134, Tryz.ntmps134
      go_wp2
      go_quiet ((go_at_call 231; exact Calls.quiet_of_same ((K.out _).mono fun _ _ ⟨h1, h2⟩ => ⟨h1, h2.symm⟩)))
      go_wp2
      go_ret
      exact ⟨(by rw [HQ.out]; rfl), (by rw [HQ.out]; exact HS.out.1 _), (by exact HS.out.2 _)⟩

set_option maxHeartbeats 1000000 in
set_option maxRecDepth 100000 in
theorem qmore_any (b : Nat) (s : ByteArray) (st : RS) (w : World) (h : RRd w b s st) (ha : st.at_ ≤ s.size) (hs : s.size ≤ 1000000) :
    Calls Tryz.prog 179 #[.pointer (some ⟨b, 0, none⟩)] w fun e w' => QPost b s (.int .i64 (qM s st).1) (qM s st).2 w e w' := by
  have C := Lib.hid (qint_any b s st w h ha hs)
  obtain ⟨n, st1, hq⟩ : ∃ n st1, qI s st = (n, st1) := ⟨_, _, rfl⟩
  have HQ := Lib.hid hq
  clear h ha hs hq
  by_cases hn : n < 0
  · have HM := Lib.hid (show qM s st = (n, ⟨st1.at_, true⟩) from by simp [qM, HQ.out, hn])
    go_enter Tryz.func179, Tryz.ntmps179
    go_wp2_with fail
    refine C.out.mono ?_
    rintro e w1 hp
    unfold QPost at hp
    rw [HQ.out] at hp
    obtain ⟨rfl, hr, hu⟩ := hp
    obtain ⟨x1, x2, x3, x4, x5, x6⟩ := row_facts hr
    have hset : RRd (w1.setCell ⟨b, 2, none⟩ (.bool true)) b s ⟨st1.at_, true⟩ := RowAt.set hr rfl
    have HS := Lib.hid (And.intro hset (upd_set hu 2 (.bool true)))
    clear hr hu hset
    go_wp2
    go_ret
    exact ⟨(by rw [HM.out]; rfl), (by rw [HM.out]; exact HS.out.1), HS.out.2⟩
  · have HM := Lib.hid (show qM s st = (n, st1) from by simp [qM, HQ.out, hn])
    go_enter Tryz.func179, Tryz.ntmps179
    go_wp2_with fail
    refine C.out.mono ?_
    rintro e w1 hp
    unfold QPost at hp
    rw [HQ.out] at hp
    obtain ⟨rfl, hr, hu⟩ := hp
    have HS := Lib.hid (And.intro hr hu)
    clear hr hu
    go_wp2
    go_ret
    exact ⟨(by rw [HM.out]; rfl), (by rw [HM.out]; exact HS.out.1), HS.out.2⟩

set_option maxHeartbeats 1000000 in
set_option maxRecDepth 100000 in
theorem qtruth_any (b : Nat) (s : ByteArray) (st : RS) (w : World) (h : RRd w b s st) (ha : st.at_ ≤ s.size) (hs : s.size ≤ 1000000) :
    Calls Tryz.prog 182 #[.pointer (some ⟨b, 0, none⟩)] w fun e w' => QPost b s (.bool (qB s st).1) (qB s st).2 w e w' := by
  have C := Lib.hid (qint_any b s st w h ha hs)
  obtain ⟨n, st1, hq⟩ : ∃ n st1, qI s st = (n, st1) := ⟨_, _, rfl⟩
  have HQ := Lib.hid hq
  clear h ha hs hq
  by_cases hn : n = 0 ∨ n = 1
  · have HM := Lib.hid (show qB s st = (n == 1, st1) from by simp only [qB, HQ.out]; rcases hn with rfl | rfl <;> simp)
    rcases hn with rfl | rfl
    all_goals
      go_enter Tryz.func182, Tryz.ntmps182
      go_wp2_with fail
      refine C.out.mono ?_
      rintro e w1 hp
      unfold QPost at hp
      rw [HQ.out] at hp
      obtain ⟨rfl, hr, hu⟩ := hp
      have HS := Lib.hid (And.intro hr hu)
      clear hr hu
      go_wp2
      go_ret
      exact ⟨(by rw [HM.out]; rfl), (by rw [HM.out]; exact HS.out.1), HS.out.2⟩
  · have n0 : (n != 0) = true := by rw [bne_iff_ne]; omega
    have n1 : (n != 1) = true := by rw [bne_iff_ne]; omega
    have n2 : (n == 1) = false := by rw [beq_eq_false_iff_ne]; omega
    have n3 : (n == 0) = false := by rw [beq_eq_false_iff_ne]; omega
    have HM := Lib.hid (show qB s st = (false, ⟨st1.at_, true⟩) from by simp only [qB, HQ.out, n2, n3]; simp)
    clear hn
    go_enter Tryz.func182, Tryz.ntmps182
    go_wp2_with fail
    refine C.out.mono ?_
    rintro e w1 hp
    unfold QPost at hp
    rw [HQ.out] at hp
    obtain ⟨rfl, hr, hu⟩ := hp
    obtain ⟨x1, x2, x3, x4, x5, x6⟩ := row_facts hr
    have hset : RRd (w1.setCell ⟨b, 2, none⟩ (.bool true)) b s ⟨st1.at_, true⟩ := RowAt.set hr rfl
    have HS := Lib.hid (And.intro hset (upd_set hu 2 (.bool true)))
    clear hr hu hset
    go_wp2
    go_ret
    exact ⟨(by rw [HM.out]; rfl), (by rw [HM.out]; exact HS.out.1), HS.out.2⟩

/-- A method's state behind it is in the text. -/
theorem QPost.le {b : Nat} {s : ByteArray} {v : Value} {st' : RS} {w w' : World} {e : Ending} (h : QPost b s v st' w e w') : RRd w' b s st' := h.2.1

set_option maxHeartbeats 1000000 in
theorem qdone_any (b : Nat) (s : ByteArray) (st : RS) (w : World) (h : RRd w b s st) :
    Calls Tryz.prog 77 #[.pointer (some ⟨b, 0, none⟩)] w fun e w' => e = .returned (.bool (!st.bad && decide (st.at_ = s.size))) ∧ Below w.heap.size w w' := by
  obtain ⟨a, bad⟩ := st
  obtain ⟨x1, x2, x3, x4, x5, x6⟩ := row_facts h
  simp only at x1
  clear h
  cases bad with
  | true =>
    go_enter Tryz.func77, Tryz.ntmps77
    go_wp2
    go_quiet (fail)
    go_wp2
    go_ret
    exact ⟨rfl, by (repeat' (first | (with_reducible exact Below.refl _ _) | (with_reducible assumption) | (with_reducible refine below_run ?_ (by assumption)) | (with_reducible refine below_of_upd ?_ (by assumption) ?_) | (with_reducible refine below_drewN ?_ _) | (with_reducible refine Below.drew ?_) | (with_reducible refine below_seven ?_ ?_) | (with_reducible refine below_six ?_ ?_) | (with_reducible refine below_one ?_ ?_) | (with_reducible refine Below.alloc ?_ ?_ _) | (with_reducible refine below_after ?_ ?_ (by assumption)) | (show _ ≤ _; first | omega | (simp; done) | (simp; omega))))⟩
  | false =>
    by_cases he : a = s.size
    · have h1 : ((a : Int) == (s.size : Int)) = true := by rw [beq_iff_eq]; omega
      have HE := Lib.hid he
      clear he
      go_enter Tryz.func77, Tryz.ntmps77
      go_wp2
      go_quiet (fail)
      go_wp2
      go_ret
      exact ⟨ret_bool (by simp [HE.out]), by (repeat' (first | (with_reducible exact Below.refl _ _) | (with_reducible assumption) | (with_reducible refine below_run ?_ (by assumption)) | (with_reducible refine below_of_upd ?_ (by assumption) ?_) | (with_reducible refine below_drewN ?_ _) | (with_reducible refine Below.drew ?_) | (with_reducible refine below_seven ?_ ?_) | (with_reducible refine below_six ?_ ?_) | (with_reducible refine below_one ?_ ?_) | (with_reducible refine Below.alloc ?_ ?_ _) | (with_reducible refine below_after ?_ ?_ (by assumption)) | (show _ ≤ _; first | omega | (simp; done) | (simp; omega))))⟩
    · have h1 : ((a : Int) == (s.size : Int)) = false := by rw [beq_eq_false_iff_ne]; omega
      have HE := Lib.hid he
      clear he
      go_enter Tryz.func77, Tryz.ntmps77
      go_wp2
      go_quiet (fail)
      go_wp2
      go_ret
      exact ⟨ret_bool (by simp [HE.out]), by (repeat' (first | (with_reducible exact Below.refl _ _) | (with_reducible assumption) | (with_reducible refine below_run ?_ (by assumption)) | (with_reducible refine below_of_upd ?_ (by assumption) ?_) | (with_reducible refine below_drewN ?_ _) | (with_reducible refine Below.drew ?_) | (with_reducible refine below_seven ?_ ?_) | (with_reducible refine below_six ?_ ?_) | (with_reducible refine below_one ?_ ?_) | (with_reducible refine Below.alloc ?_ ?_ _) | (with_reducible refine below_after ?_ ?_ (by assumption)) | (show _ ≤ _; first | omega | (simp; done) | (simp; omega))))⟩
end Go.Proofs.YtjeigphhepngmaaGreatDoor

namespace Go.Proofs.YtjeigphhepngmaaGreatDoor
open Go.RowKit

theorem qI_le {s : ByteArray} {st st1 : RS} {n : Int} (h : qI s st = (n, st1)) (ha : st.at_ ≤ s.size) : st1.at_ ≤ s.size := by
  have := (fwdQ_I s).fwd st ha
  rw [h] at this
  exact this.2
theorem cell_h {w : World} {b T : Nat} {cs : Array Value} (h : RowAt w b T cs) (o : Nat) : w.cell? ⟨b, o, none⟩ = cs[o]? := (row_facts h).1 o
theorem upd_trans {b : Nat} {a w w' : World} (h : Upd b a w) (g : Upd b w w') : Upd b a w' := upd_upd h g

set_option maxHeartbeats 1000000 in
set_option maxRecDepth 100000 in
theorem qparam_any (b : Nat) (s : ByteArray) (st st1 st2 : RS) (n1 n2 : Int) (w : World) (h : RRd w b s st) (ha : st.at_ ≤ s.size) (hs : s.size ≤ 1000000) (q1 : qI s st = (n1, st1)) (q2 : qI s st1 = (n2, st2)) :
    Calls Tryz.prog 233 #[.pointer (some ⟨b, 0, none⟩)] w fun e w' => QPost b s (.agg #[.int .i64 n1, .int .i64 n2]) st2 w e w' := by
  have hb : b < w.heap.size := lt_of_block h
  have ha1 := qI_le q1 ha
  have C1 := Lib.hid (qint_any b s st (w.alloc (.cells #[.int .i64 0, .int .i64 0] 233)) (RowAt.alloc h _) ha hs)
  have C2 := Lib.hid (fun W (hw : RRd W b s st1) => qint_any b s st1 W hw ha1 hs)
  have Q1 := Lib.hid q1
  have Q2 := Lib.hid q2
  clear h ha hs q1 q2 ha1
  go_enter Tryz.func233, Tryz.ntmps233
  go_wp2_with fail
  refine C1.out.mono ?_
  rintro e w1 hp
  unfold QPost at hp
  rw [Q1.out] at hp
  obtain ⟨rfl, hr1, hu1⟩ := hp
  have z1 : RowAt w1 w.heap.size 233 #[.int .i64 0, .int .i64 0] := RowAt.upd (RowAt.new _ _ _) hu1 (by omega)
  have U1 := Lib.hid (upd_trans (upd_alloc (upd_refl b w) (.cells #[.int .i64 0, .int .i64 0] 233)) hu1)
  clear hu1
  go_wp2_with fail
  refine (C2.out _ hr1).mono ?_
  rintro e w2 hp
  unfold QPost at hp
  rw [Q2.out] at hp
  obtain ⟨rfl, hr2, hu2⟩ := hp
  have z2 : RowAt w2 w.heap.size 233 #[.int .i64 0, .int .i64 0] := z1.upd hu2 (by omega)
  have U2 := Lib.hid (upd_trans U1.out hu2)
  obtain ⟨x1, x2, x3, x4, x5, x6⟩ := row_facts z2
  have Z := Lib.hid (And.intro z2 hr2)
  clear hu2 hr1 hr2 z1 z2
  go_wp2
  have hF : RowAt ((w2.setCell ⟨w.heap.size, 0, none⟩ (.int .i64 n1)).setCell ⟨w.heap.size, 1, none⟩ (.int .i64 n2)) w.heap.size 233 #[.int .i64 n1, .int .i64 n2] := RowAt.set (RowAt.set Z.out.1 rfl) rfl
  have f0 := cell_h hF 0
  have f1 := cell_h hF 1
  simp only [List.getElem?_toArray] at f0 f1
  refine bodyPost_ret (v := .agg #[.int .i64 n1, .int .i64 n2]) ?_ rfl ⟨rfl, ?_, ?_⟩
  · simp [results, Tryz.results233, go_sem, f0, f1]
  · exact RowAt.far1 (RowAt.far1 Z.out.2 (by omega)) (by omega)
  · exact upd_far (upd_far U2.out (Nat.le_refl _) _) (Nat.le_refl _) _

/-- The five ints of a move, with the states between. -/
theorem qMv_is {s : ByteArray} {st st1 st2 st3 st4 st5 : RS} {n1 n2 n3 n4 n5 : Int} (q1 : qI s st = (n1, st1)) (q2 : qI s st1 = (n2, st2)) (q3 : qI s st2 = (n3, st3)) (q4 : qI s st3 = (n4, st4)) (q5 : qI s st4 = (n5, st5)) : qMv s st = (⟨n1, n2, n3, n4, n5⟩, st5) := by
  simp [qMv, qMap, qIs, q1, q2, q3, q4, q5, mvOf]
theorem pair_is {α β : Type} (x : α × β) : ∃ a b, x = (a, b) := ⟨_, _, rfl⟩

set_option maxHeartbeats 4000000 in
set_option maxRecDepth 100000 in
theorem qmove_any (b : Nat) (s : ByteArray) (st : RS) (w : World) (h : RRd w b s st) (ha : st.at_ ≤ s.size) (hs : s.size ≤ 1000000) :
    Calls Tryz.prog 180 #[.pointer (some ⟨b, 0, none⟩)] w fun e w' => QPost b s (.agg (mvA (qMv s st).1)) (qMv s st).2 w e w' := by
  obtain ⟨n1, st1, q1⟩ := pair_is (qI s st)
  obtain ⟨n2, st2, q2⟩ := pair_is (qI s st1)
  obtain ⟨n3, st3, q3⟩ := pair_is (qI s st2)
  obtain ⟨n4, st4, q4⟩ := pair_is (qI s st3)
  obtain ⟨n5, st5, q5⟩ := pair_is (qI s st4)
  have hb : b < w.heap.size := lt_of_block h
  have ha1 := qI_le q1 ha
  have ha2 := qI_le q2 ha1
  have ha3 := qI_le q3 ha2
  have ha4 := qI_le q4 ha3
  have C1 := Lib.hid (qparam_any b s st st1 st2 n1 n2 (w.alloc (.cells #[.int .i64 0, .int .i64 0, .int .i64 0, .int .i64 0, .int .i64 0] 237)) (RowAt.alloc h _) ha hs q1 q2)
  have C3 := Lib.hid (fun W (hw : RRd W b s st2) => qint_any b s st2 W hw ha2 hs)
  have C4 := Lib.hid (fun W (hw : RRd W b s st3) => qint_any b s st3 W hw ha3 hs)
  have C5 := Lib.hid (fun W (hw : RRd W b s st4) => qint_any b s st4 W hw ha4 hs)
  have Q3 := Lib.hid q3
  have Q4 := Lib.hid q4
  have Q5 := Lib.hid q5
  rw [qMv_is q1 q2 q3 q4 q5]
  clear h ha hs q1 q2 q3 q4 q5 ha1 ha2 ha3 ha4
  go_enter Tryz.func180, Tryz.ntmps180
  go_wp2_with fail
  refine C1.out.mono ?_
  rintro e w1 hp
  unfold QPost at hp
  obtain ⟨rfl, hr1, hu1⟩ := hp
  have z1 : RowAt w1 w.heap.size 237 #[.int .i64 0, .int .i64 0, .int .i64 0, .int .i64 0, .int .i64 0] := RowAt.upd (RowAt.new _ _ _) hu1 (by omega)
  have U1 := Lib.hid (upd_trans (upd_alloc (upd_refl b w) (.cells #[.int .i64 0, .int .i64 0, .int .i64 0, .int .i64 0, .int .i64 0] 237)) hu1)
  have hz1 := lt_of_block z1
  have hr1b := hr1
  clear hu1
  go_wp2_with fail
  obtain ⟨W1, hW1⟩ : ∃ W, w1.alloc (.cells #[.int .i64 n1, .int .i64 n2, .int .i64 0, .int .i64 0, .int .i64 0] 237) = W := ⟨_, rfl⟩
  have r1 : RowAt W1 w1.heap.size 237 #[.int .i64 n1, .int .i64 n2, .int .i64 0, .int .i64 0, .int .i64 0] := by rw [← hW1]; exact RowAt.new _ _ _
  have z1' : RowAt W1 w.heap.size 237 #[.int .i64 0, .int .i64 0, .int .i64 0, .int .i64 0, .int .i64 0] := by rw [← hW1]; exact z1.alloc _
  have hr1' : RRd W1 b s st2 := by rw [← hW1]; exact RowAt.alloc hr1 _
  have U1' := Lib.hid (show Upd b w W1 from by rw [← hW1]; exact upd_alloc U1.out _)
  rw [hW1]
  obtain ⟨r, hr⟩ : ∃ r, w1.heap.size = r := ⟨_, rfl⟩
  rw [hr] at r1 hz1 ⊢
  have hbr : b < r := by have := lt_of_block hr1; omega
  clear hW1 z1 hr1 hr hr1b
  refine (C3.out _ hr1').mono ?_
  rintro e w3 hp
  unfold QPost at hp
  rw [Q3.out] at hp
  obtain ⟨rfl, hr3, hu3⟩ := hp
  have r3 : RowAt w3 r 237 #[.int .i64 n1, .int .i64 n2, .int .i64 0, .int .i64 0, .int .i64 0] := RowAt.upd r1 hu3 (by omega)
  have z3 : RowAt w3 w.heap.size 237 #[.int .i64 0, .int .i64 0, .int .i64 0, .int .i64 0, .int .i64 0] := RowAt.upd z1' hu3 (by omega)
  have U3 := Lib.hid (upd_trans U1'.out hu3)
  obtain ⟨x1, x2, x3, x4, x5, x6⟩ := row_facts r3
  clear hu3 r1 z1' hr1'
  go_wp2_with fail
  obtain ⟨W3, hW3⟩ : ∃ W, w3.setCell ⟨r, 2, none⟩ (.int .i64 n3) = W := ⟨_, rfl⟩
  have r3' : RowAt W3 r 237 #[.int .i64 n1, .int .i64 n2, .int .i64 n3, .int .i64 0, .int .i64 0] := by rw [← hW3]; exact RowAt.set r3 rfl
  have z3' : RowAt W3 w.heap.size 237 #[.int .i64 0, .int .i64 0, .int .i64 0, .int .i64 0, .int .i64 0] := by rw [← hW3]; exact z3.far1 (by omega)
  have hr3' : RRd W3 b s st3 := by rw [← hW3]; exact RowAt.far1 hr3 (by omega)
  have U3' := Lib.hid (show Upd b w W3 from by rw [← hW3]; exact upd_far U3.out (by show w.heap.size ≤ r; omega) _)
  rw [hW3]
  clear hW3 r3 z3 hr3 x1 x2 x3 x4 x5 x6
  refine (C4.out _ hr3').mono ?_
  rintro e w4 hp
  unfold QPost at hp
  rw [Q4.out] at hp
  obtain ⟨rfl, hr4, hu4⟩ := hp
  have r4 : RowAt w4 r 237 #[.int .i64 n1, .int .i64 n2, .int .i64 n3, .int .i64 0, .int .i64 0] := RowAt.upd r3' hu4 (by omega)
  have z4 : RowAt w4 w.heap.size 237 #[.int .i64 0, .int .i64 0, .int .i64 0, .int .i64 0, .int .i64 0] := RowAt.upd z3' hu4 (by omega)
  have U4 := Lib.hid (upd_trans U3'.out hu4)
  obtain ⟨x1, x2, x3, x4, x5, x6⟩ := row_facts r4
  clear hu4 r3' z3' hr3'
  go_wp2_with fail
  obtain ⟨W4, hW4⟩ : ∃ W, w4.setCell ⟨r, 3, none⟩ (.int .i64 n4) = W := ⟨_, rfl⟩
  have r4' : RowAt W4 r 237 #[.int .i64 n1, .int .i64 n2, .int .i64 n3, .int .i64 n4, .int .i64 0] := by rw [← hW4]; exact RowAt.set r4 rfl
  have z4' : RowAt W4 w.heap.size 237 #[.int .i64 0, .int .i64 0, .int .i64 0, .int .i64 0, .int .i64 0] := by rw [← hW4]; exact z4.far1 (by omega)
  have hr4' : RRd W4 b s st4 := by rw [← hW4]; exact RowAt.far1 hr4 (by omega)
  have U4' := Lib.hid (show Upd b w W4 from by rw [← hW4]; exact upd_far U4.out (by show w.heap.size ≤ r; omega) _)
  rw [hW4]
  clear hW4 r4 z4 hr4 x1 x2 x3 x4 x5 x6
  refine (C5.out _ hr4').mono ?_
  rintro e w5 hp
  unfold QPost at hp
  rw [Q5.out] at hp
  obtain ⟨rfl, hr5, hu5⟩ := hp
  have r5 : RowAt w5 r 237 #[.int .i64 n1, .int .i64 n2, .int .i64 n3, .int .i64 n4, .int .i64 0] := RowAt.upd r4' hu5 (by omega)
  have z5 : RowAt w5 w.heap.size 237 #[.int .i64 0, .int .i64 0, .int .i64 0, .int .i64 0, .int .i64 0] := RowAt.upd z4' hu5 (by omega)
  have U5 := Lib.hid (upd_trans U4'.out hu5)
  obtain ⟨x1, x2, x3, x4, x5, x6⟩ := row_facts r5
  clear hu5 r4' z4' hr4'
  have R := Lib.hid (And.intro r5 (And.intro z5 hr5))
  obtain ⟨y1, y2, y3, y4, y5, y6⟩ := row_facts z5
  have hne : ¬ r = w.heap.size := by omega
  have hne2 : ¬ w.heap.size = r := by omega
  clear hr5
  go_wp2
  have hG : RowAt (w5.setCell ⟨r, 4, none⟩ (.int .i64 n5)) w.heap.size 237 #[.int .i64 0, .int .i64 0, .int .i64 0, .int .i64 0, .int .i64 0] := R.out.2.1.far1 (by omega)
  have hF : RowAt (((((w5.setCell ⟨r, 4, none⟩ (.int .i64 n5)).setCell ⟨w.heap.size, 0, none⟩ (.int .i64 n1)).setCell ⟨w.heap.size, 1, none⟩ (.int .i64 n2)).setCell ⟨w.heap.size, 2, none⟩ (.int .i64 n3)).setCell ⟨w.heap.size, 3, none⟩ (.int .i64 n4) |>.setCell ⟨w.heap.size, 4, none⟩ (.int .i64 n5)) w.heap.size 237 #[.int .i64 n1, .int .i64 n2, .int .i64 n3, .int .i64 n4, .int .i64 n5] := RowAt.set (RowAt.set (RowAt.set (RowAt.set (RowAt.set hG rfl) rfl) rfl) rfl) rfl
  have f0 := cell_h hF 0
  have f1 := cell_h hF 1
  have f2 := cell_h hF 2
  have f3 := cell_h hF 3
  have f4 := cell_h hF 4
  simp only [List.getElem?_toArray] at f0 f1 f2 f3 f4
  refine bodyPost_ret (v := .agg #[.int .i64 n1, .int .i64 n2, .int .i64 n3, .int .i64 n4, .int .i64 n5]) ?_ rfl ⟨rfl, ?_, ?_⟩
  · simp [results, Tryz.results180, go_sem, f0, f1, f2, f3, f4]
  · exact RowAt.far1 (RowAt.far1 (RowAt.far1 (RowAt.far1 (RowAt.far1 (RowAt.far1 R.out.2.2 (by omega)) (by omega)) (by omega)) (by omega)) (by omega)) (by omega)
  · exact upd_far (upd_far (upd_far (upd_far (upd_far (upd_far U5.out (by show w.heap.size ≤ r; omega) _) (Nat.le_refl _) _) (Nat.le_refl _) _) (Nat.le_refl _) _) (Nat.le_refl _) _) (Nat.le_refl _) _
end Go.Proofs.YtjeigphhepngmaaGreatDoor
