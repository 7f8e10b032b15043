/-
  The program's reader: cues.
-/
import Derived.Test.YtjeigphhepngmaaGreatDoorZf
namespace Go.Proofs.YtjeigphhepngmaaGreatDoor
open Go.RowKit

theorem own_base {w : World} {B B' T S n : Nat} {v : Value} {xs : List Value} (h : w.ownsRow B' T S v n xs) (hB : B ≤ B') : w.ownsRow B T S v n xs := by
  refine ⟨h.1, ?_⟩
  rcases h.2 with hn | ⟨g, cap, cur, rfl, hbg, rest⟩
  · exact .inl hn
  · exact .inr ⟨g, cap, cur, rfl, Nat.le_trans hB hbg, rest⟩
/-- What reading a cue says. -/
def CPost (b : Nat) (s : ByteArray) (r : Option (CueD × Nat)) (w : World) (e : Ending) (w' : World) : Prop :=
  match r with
  | some (c, k) => ∃ v1 v2, e = .returned (.agg (cueA c v1 v2)) ∧ PRd w' b s k ∧ Upd b w w' ∧ CueAt w' v1 v2 c ∧ CapOk v1 ∧ NewB w.heap.size v1 ∧ NewB w.heap.size v2
  | none => e = BadE ∧ Upd b w w'

set_option maxHeartbeats 16000000 in
set_option maxRecDepth 100000 in
theorem pcue_any (b : Nat) (s : ByteArray) (a : Nat) (w : World) (h : PRd w b s a) (ha : a ≤ s.size) (hs : s.size ≤ 1000000) :
    Calls Tryz.prog 75 #[.pointer (some ⟨b, 0, none⟩)] w fun e w' => CPost b s (rCue s a) w e w' := by
  have hbs : b < w.heap.size := lt_of_block h
  go_enter Tryz.func75, Tryz.ntmps75
  go_wp2_with fail
  obtain ⟨W0, hW0⟩ : ∃ W, (w.alloc (.cells #[.string ⟨#[]⟩, .string ⟨#[]⟩, .slice none 0 0, .slice none 0 0, .bool false, .bool false, .int .i64 0, .string ⟨#[]⟩, .int .i64 0] 64)).alloc (.cells #[.string ⟨#[]⟩, .string ⟨#[]⟩, .slice none 0 0, .slice none 0 0, .bool false, .bool false, .int .i64 0, .string ⟨#[]⟩, .int .i64 0] 64) = W := ⟨_, rfl⟩
  have S0 := Lib.hid (show PRd W0 b s a ∧ RowAt W0 w.heap.size 64 #[.string ⟨#[]⟩, .string ⟨#[]⟩, .slice none 0 0, .slice none 0 0, .bool false, .bool false, .int .i64 0, .string ⟨#[]⟩, .int .i64 0] ∧ RowAt W0 (w.heap.size + 1) 64 #[.string ⟨#[]⟩, .string ⟨#[]⟩, .slice none 0 0, .slice none 0 0, .bool false, .bool false, .int .i64 0, .string ⟨#[]⟩, .int .i64 0] ∧ Upd b w W0 from by
    rw [← hW0]
    exact ⟨RowAt.alloc (RowAt.alloc h _) _, RowAt.alloc (RowAt.new _ _ _) _, RowAt.mk (by simp) rfl, upd_alloc (upd_alloc (upd_refl _ _) _) _⟩)
  rw [hW0]
  clear hW0 h
  refine (ptext_any b s a W0 S0.out.1 ha hs).mono ?_
  intro e a1 hp
  cases q1 : rT s a with
  | none =>
    rw [q1] at hp
    obtain ⟨rfl, hu⟩ := hp
    simp only [BadE]
    go_wp2
    exact ⟨rfl, by rw [show rCue s a = none from by simp [rCue, rMap, rCue9, rThen, q1]]; exact ⟨rfl, upd_trans S0.out.2.2.2 hu⟩⟩
  | some y =>
  obtain ⟨t1, c1⟩ := y
  have F1 := Lib.hid (fwd_rT s a t1 c1 q1 ha).2
  rw [q1] at hp
  have Q1 := Lib.hid q1
  clear q1
  obtain ⟨rfl, hr, hu⟩ := hp
  have P1 : Hid (PRd a1 b s c1 ∧ RowAt a1 w.heap.size 64 #[.string ⟨#[]⟩, .string ⟨#[]⟩, .slice none 0 0, .slice none 0 0, .bool false, .bool false, .int .i64 0, .string ⟨#[]⟩, .int .i64 0] ∧ RowAt a1 (w.heap.size + 1) 64 #[.string ⟨#[]⟩, .string ⟨#[]⟩, .slice none 0 0, .slice none 0 0, .bool false, .bool false, .int .i64 0, .string ⟨#[]⟩, .int .i64 0] ∧ Upd b w a1) := Lib.hid ⟨hr, RowAt.upd S0.out.2.1 hu (by omega), RowAt.upd S0.out.2.2.1 hu (by omega), upd_trans S0.out.2.2.2 hu⟩
  clear hr hu
  go_wp2_with fail
  obtain ⟨W1, hW1⟩ : ∃ W, a1 = W := ⟨_, rfl⟩
  have S1 := P1
  rw [hW1] at S1 ⊢
  clear hW1 P1
  refine (ptext_any b s c1 W1 S1.out.1 F1.out hs).mono ?_
  intro e a2 hp
  cases q2 : rT s c1 with
  | none =>
    rw [q2] at hp
    obtain ⟨rfl, hu⟩ := hp
    simp only [BadE]
    go_wp2
    exact ⟨rfl, by rw [show rCue s a = none from by simp [rCue, rMap, rCue9, rThen, Q1.out, q2]]; exact ⟨rfl, upd_trans S1.out.2.2.2 hu⟩⟩
  | some y =>
  obtain ⟨t2, c2⟩ := y
  have F2 := Lib.hid (fwd_rT s c1 t2 c2 q2 F1.out).2
  rw [q2] at hp
  have Q2 := Lib.hid q2
  clear q2
  obtain ⟨rfl, hr, hu⟩ := hp
  have P2 : Hid (PRd a2 b s c2 ∧ RowAt a2 w.heap.size 64 #[.string ⟨#[]⟩, .string ⟨#[]⟩, .slice none 0 0, .slice none 0 0, .bool false, .bool false, .int .i64 0, .string ⟨#[]⟩, .int .i64 0] ∧ RowAt a2 (w.heap.size + 1) 64 #[.string ⟨#[]⟩, .string ⟨#[]⟩, .slice none 0 0, .slice none 0 0, .bool false, .bool false, .int .i64 0, .string ⟨#[]⟩, .int .i64 0] ∧ Upd b w a2) := Lib.hid ⟨hr, RowAt.upd S1.out.2.1 hu (by omega), RowAt.upd S1.out.2.2.1 hu (by omega), upd_trans S1.out.2.2.2 hu⟩
  clear hr hu
  obtain ⟨x1, x2, x3, x4, x5, x6⟩ := row_facts P2.out.2.2.1
  go_wp2_with fail
  obtain ⟨W2, hW2⟩ : ∃ W, ((a2.setCell ⟨w.heap.size + 1, 0, none⟩ (.string t1)).setCell ⟨w.heap.size + 1, 1, none⟩ (.string t2)) = W := ⟨_, rfl⟩
  have S2 := Lib.hid (show PRd W2 b s c2 ∧ RowAt W2 w.heap.size 64 #[.string ⟨#[]⟩, .string ⟨#[]⟩, .slice none 0 0, .slice none 0 0, .bool false, .bool false, .int .i64 0, .string ⟨#[]⟩, .int .i64 0] ∧ RowAt W2 (w.heap.size + 1) 64 #[.string t1, .string t2, .slice none 0 0, .slice none 0 0, .bool false, .bool false, .int .i64 0, .string ⟨#[]⟩, .int .i64 0] ∧ Upd b w W2 from by
    rw [← hW2]
    have r0 : RowAt (a2.setCell ⟨w.heap.size + 1, 0, none⟩ (.string t1)) (w.heap.size + 1) 64 #[.string t1, .string ⟨#[]⟩, .slice none 0 0, .slice none 0 0, .bool false, .bool false, .int .i64 0, .string ⟨#[]⟩, .int .i64 0] := RowAt.set P2.out.2.2.1 rfl
    have p0 : PRd (a2.setCell ⟨w.heap.size + 1, 0, none⟩ (.string t1)) b s c2 := RowAt.far1 P2.out.1 (by omega)
    have z0 : RowAt (a2.setCell ⟨w.heap.size + 1, 0, none⟩ (.string t1)) w.heap.size 64 #[.string ⟨#[]⟩, .string ⟨#[]⟩, .slice none 0 0, .slice none 0 0, .bool false, .bool false, .int .i64 0, .string ⟨#[]⟩, .int .i64 0] := RowAt.far1 P2.out.2.1 (by omega)
    have u0 : Upd b w (a2.setCell ⟨w.heap.size + 1, 0, none⟩ (.string t1)) := upd_far P2.out.2.2.2 (by show w.heap.size ≤ w.heap.size + 1; omega) _
    have r1 : RowAt ((a2.setCell ⟨w.heap.size + 1, 0, none⟩ (.string t1)).setCell ⟨w.heap.size + 1, 1, none⟩ (.string t2)) (w.heap.size + 1) 64 #[.string t1, .string t2, .slice none 0 0, .slice none 0 0, .bool false, .bool false, .int .i64 0, .string ⟨#[]⟩, .int .i64 0] := RowAt.set r0 rfl
    have p1 : PRd ((a2.setCell ⟨w.heap.size + 1, 0, none⟩ (.string t1)).setCell ⟨w.heap.size + 1, 1, none⟩ (.string t2)) b s c2 := RowAt.far1 p0 (by omega)
    have z1 : RowAt ((a2.setCell ⟨w.heap.size + 1, 0, none⟩ (.string t1)).setCell ⟨w.heap.size + 1, 1, none⟩ (.string t2)) w.heap.size 64 #[.string ⟨#[]⟩, .string ⟨#[]⟩, .slice none 0 0, .slice none 0 0, .bool false, .bool false, .int .i64 0, .string ⟨#[]⟩, .int .i64 0] := RowAt.far1 z0 (by omega)
    have u1 : Upd b w ((a2.setCell ⟨w.heap.size + 1, 0, none⟩ (.string t1)).setCell ⟨w.heap.size + 1, 1, none⟩ (.string t2)) := upd_far u0 (by show w.heap.size ≤ w.heap.size + 1; omega) _
    exact ⟨p1, z1, r1, u1⟩)
  rw [hW2]
  clear hW2 P2 x1 x2 x3 x4 x5 x6
  refine (plmv_any b s c2 W2 S2.out.1 F2.out hs).mono ?_
  intro e a3 hp
  cases q3 : rLs s (rMv s) c2 with
  | none =>
    rw [q3] at hp
    obtain ⟨rfl, hu⟩ := hp
    simp only [BadE]
    go_wp2
    exact ⟨rfl, by rw [show rCue s a = none from by simp [rCue, rMap, rCue9, rThen, Q1.out, Q2.out, q3]]; exact ⟨rfl, upd_trans S2.out.2.2.2 hu⟩⟩
  | some y =>
  obtain ⟨l3, c3⟩ := y
  have F3 := Lib.hid (fwd_rLs (fwd_Mv s) c2 l3 c3 q3 F2.out).2
  rw [q3] at hp
  have Q3 := Lib.hid q3
  clear q3
  obtain ⟨vv, rfl, hr, hu, ho, hle⟩ := hp
  obtain ⟨ad1, cp1, rfl, hcp1⟩ := own_shape ho
  have HC1 := Lib.hid (And.intro hcp1 hle)
  clear hcp1 hle
  have P3 : Hid (PRd a3 b s c3 ∧ RowAt a3 w.heap.size 64 #[.string ⟨#[]⟩, .string ⟨#[]⟩, .slice none 0 0, .slice none 0 0, .bool false, .bool false, .int .i64 0, .string ⟨#[]⟩, .int .i64 0] ∧ RowAt a3 (w.heap.size + 1) 64 #[.string t1, .string t2, .slice none 0 0, .slice none 0 0, .bool false, .bool false, .int .i64 0, .string ⟨#[]⟩, .int .i64 0] ∧ Upd b w a3 ∧ a3.ownsRow w.heap.size 237 5 (.slice ad1 l3.length cp1) l3.length (genL mvA l3)) := Lib.hid ⟨hr, RowAt.upd S2.out.2.1 hu (by omega), RowAt.upd S2.out.2.2.1 hu (by omega), upd_trans S2.out.2.2.2 hu, own_base ho S2.out.2.2.2.size⟩
  clear hr hu ho
  obtain ⟨x1, x2, x3, x4, x5, x6⟩ := row_facts P3.out.2.2.1
  go_wp2_with fail
  obtain ⟨W3, hW3⟩ : ∃ W, (a3.setCell ⟨w.heap.size + 1, 2, none⟩ (.slice ad1 l3.length cp1)) = W := ⟨_, rfl⟩
  have S3 := Lib.hid (show PRd W3 b s c3 ∧ RowAt W3 w.heap.size 64 #[.string ⟨#[]⟩, .string ⟨#[]⟩, .slice none 0 0, .slice none 0 0, .bool false, .bool false, .int .i64 0, .string ⟨#[]⟩, .int .i64 0] ∧ RowAt W3 (w.heap.size + 1) 64 #[.string t1, .string t2, .slice ad1 l3.length cp1, .slice none 0 0, .bool false, .bool false, .int .i64 0, .string ⟨#[]⟩, .int .i64 0] ∧ Upd b w W3 ∧ W3.ownsRow w.heap.size 237 5 (.slice ad1 l3.length cp1) l3.length (genL mvA l3) from by
    rw [← hW3]
    have r0 : RowAt (a3.setCell ⟨w.heap.size + 1, 2, none⟩ (.slice ad1 l3.length cp1)) (w.heap.size + 1) 64 #[.string t1, .string t2, .slice ad1 l3.length cp1, .slice none 0 0, .bool false, .bool false, .int .i64 0, .string ⟨#[]⟩, .int .i64 0] := RowAt.set P3.out.2.2.1 rfl
    have p0 : PRd (a3.setCell ⟨w.heap.size + 1, 2, none⟩ (.slice ad1 l3.length cp1)) b s c3 := RowAt.far1 P3.out.1 (by omega)
    have z0 : RowAt (a3.setCell ⟨w.heap.size + 1, 2, none⟩ (.slice ad1 l3.length cp1)) w.heap.size 64 #[.string ⟨#[]⟩, .string ⟨#[]⟩, .slice none 0 0, .slice none 0 0, .bool false, .bool false, .int .i64 0, .string ⟨#[]⟩, .int .i64 0] := RowAt.far1 P3.out.2.1 (by omega)
    have u0 : Upd b w (a3.setCell ⟨w.heap.size + 1, 2, none⟩ (.slice ad1 l3.length cp1)) := upd_far P3.out.2.2.2.1 (by show w.heap.size ≤ w.heap.size + 1; omega) _
    have o00 := own_upd P3.out.2.2.2.2 P3.out.2.2.1 (by decide) (upd_set (upd_refl (w.heap.size + 1) a3) 2 (.slice ad1 l3.length cp1))
    exact ⟨p0, z0, r0, u0, o00⟩)
  rw [hW3]
  clear hW3 P3 x1 x2 x3 x4 x5 x6
  refine (pltim_any b s c3 W3 S3.out.1 F3.out hs).mono ?_
  intro e a4 hp
  cases q4 : rLs s (rTim s) c3 with
  | none =>
    rw [q4] at hp
    obtain ⟨rfl, hu⟩ := hp
    simp only [BadE]
    go_wp2
    exact ⟨rfl, by rw [show rCue s a = none from by simp [rCue, rMap, rCue9, rThen, Q1.out, Q2.out, Q3.out, q4]]; exact ⟨rfl, upd_trans S3.out.2.2.2.1 hu⟩⟩
  | some y =>
  obtain ⟨l4, c4⟩ := y
  have F4 := Lib.hid (fwd_rLs (fwd_Tim s) c3 l4 c4 q4 F3.out).2
  rw [q4] at hp
  have Q4 := Lib.hid q4
  clear q4
  obtain ⟨vv, rfl, hr, hu, ho, hle⟩ := hp
  obtain ⟨ad2, cp2, rfl, hcp2⟩ := own_shape ho
  have HC2 := Lib.hid (And.intro hcp2 hle)
  clear hcp2 hle
  have P4 : Hid (PRd a4 b s c4 ∧ RowAt a4 w.heap.size 64 #[.string ⟨#[]⟩, .string ⟨#[]⟩, .slice none 0 0, .slice none 0 0, .bool false, .bool false, .int .i64 0, .string ⟨#[]⟩, .int .i64 0] ∧ RowAt a4 (w.heap.size + 1) 64 #[.string t1, .string t2, .slice ad1 l3.length cp1, .slice none 0 0, .bool false, .bool false, .int .i64 0, .string ⟨#[]⟩, .int .i64 0] ∧ Upd b w a4 ∧ a4.ownsRow w.heap.size 237 5 (.slice ad1 l3.length cp1) l3.length (genL mvA l3) ∧ a4.ownsRow w.heap.size 142 6 (.slice ad2 l4.length cp2) l4.length (genL timA l4)) := Lib.hid ⟨hr, RowAt.upd S3.out.2.1 hu (by omega), RowAt.upd S3.out.2.2.1 hu (by omega), upd_trans S3.out.2.2.2.1 hu, own_upd S3.out.2.2.2.2 S3.out.1 (by decide) hu, own_base ho S3.out.2.2.2.1.size⟩
  clear hr hu ho
  obtain ⟨x1, x2, x3, x4, x5, x6⟩ := row_facts P4.out.2.2.1
  go_wp2_with fail
  obtain ⟨W4, hW4⟩ : ∃ W, (a4.setCell ⟨w.heap.size + 1, 3, none⟩ (.slice ad2 l4.length cp2)) = W := ⟨_, rfl⟩
  have S4 := Lib.hid (show PRd W4 b s c4 ∧ RowAt W4 w.heap.size 64 #[.string ⟨#[]⟩, .string ⟨#[]⟩, .slice none 0 0, .slice none 0 0, .bool false, .bool false, .int .i64 0, .string ⟨#[]⟩, .int .i64 0] ∧ RowAt W4 (w.heap.size + 1) 64 #[.string t1, .string t2, .slice ad1 l3.length cp1, .slice ad2 l4.length cp2, .bool false, .bool false, .int .i64 0, .string ⟨#[]⟩, .int .i64 0] ∧ Upd b w W4 ∧ W4.ownsRow w.heap.size 237 5 (.slice ad1 l3.length cp1) l3.length (genL mvA l3) ∧ W4.ownsRow w.heap.size 142 6 (.slice ad2 l4.length cp2) l4.length (genL timA l4) from by
    rw [← hW4]
    have r0 : RowAt (a4.setCell ⟨w.heap.size + 1, 3, none⟩ (.slice ad2 l4.length cp2)) (w.heap.size + 1) 64 #[.string t1, .string t2, .slice ad1 l3.length cp1, .slice ad2 l4.length cp2, .bool false, .bool false, .int .i64 0, .string ⟨#[]⟩, .int .i64 0] := RowAt.set P4.out.2.2.1 rfl
    have p0 : PRd (a4.setCell ⟨w.heap.size + 1, 3, none⟩ (.slice ad2 l4.length cp2)) b s c4 := RowAt.far1 P4.out.1 (by omega)
    have z0 : RowAt (a4.setCell ⟨w.heap.size + 1, 3, none⟩ (.slice ad2 l4.length cp2)) w.heap.size 64 #[.string ⟨#[]⟩, .string ⟨#[]⟩, .slice none 0 0, .slice none 0 0, .bool false, .bool false, .int .i64 0, .string ⟨#[]⟩, .int .i64 0] := RowAt.far1 P4.out.2.1 (by omega)
    have u0 : Upd b w (a4.setCell ⟨w.heap.size + 1, 3, none⟩ (.slice ad2 l4.length cp2)) := upd_far P4.out.2.2.2.1 (by show w.heap.size ≤ w.heap.size + 1; omega) _
    have o00 := own_upd P4.out.2.2.2.2.1 P4.out.2.2.1 (by decide) (upd_set (upd_refl (w.heap.size + 1) a4) 3 (.slice ad2 l4.length cp2))
    have o01 := own_upd P4.out.2.2.2.2.2 P4.out.2.2.1 (by decide) (upd_set (upd_refl (w.heap.size + 1) a4) 3 (.slice ad2 l4.length cp2))
    exact ⟨p0, z0, r0, u0, o00, o01⟩)
  rw [hW4]
  clear hW4 P4 x1 x2 x3 x4 x5 x6
  refine (ptruth_any b s c4 W4 S4.out.1 F4.out hs).mono ?_
  intro e a5 hp
  cases q5 : rB s c4 with
  | none =>
    rw [q5] at hp
    obtain ⟨rfl, hu⟩ := hp
    simp only [BadE]
    go_wp2
    exact ⟨rfl, by rw [show rCue s a = none from by simp [rCue, rMap, rCue9, rThen, Q1.out, Q2.out, Q3.out, Q4.out, q5]]; exact ⟨rfl, upd_trans S4.out.2.2.2.1 hu⟩⟩
  | some y =>
  obtain ⟨b5, c5⟩ := y
  have F5 := Lib.hid (fwd_rB s c4 b5 c5 q5 F4.out).2
  rw [q5] at hp
  have Q5 := Lib.hid q5
  clear q5
  obtain ⟨rfl, hr, hu⟩ := hp
  have P5 : Hid (PRd a5 b s c5 ∧ RowAt a5 w.heap.size 64 #[.string ⟨#[]⟩, .string ⟨#[]⟩, .slice none 0 0, .slice none 0 0, .bool false, .bool false, .int .i64 0, .string ⟨#[]⟩, .int .i64 0] ∧ RowAt a5 (w.heap.size + 1) 64 #[.string t1, .string t2, .slice ad1 l3.length cp1, .slice ad2 l4.length cp2, .bool false, .bool false, .int .i64 0, .string ⟨#[]⟩, .int .i64 0] ∧ Upd b w a5 ∧ a5.ownsRow w.heap.size 237 5 (.slice ad1 l3.length cp1) l3.length (genL mvA l3) ∧ a5.ownsRow w.heap.size 142 6 (.slice ad2 l4.length cp2) l4.length (genL timA l4)) := Lib.hid ⟨hr, RowAt.upd S4.out.2.1 hu (by omega), RowAt.upd S4.out.2.2.1 hu (by omega), upd_trans S4.out.2.2.2.1 hu, own_upd S4.out.2.2.2.2.1 S4.out.1 (by decide) hu, own_upd S4.out.2.2.2.2.2 S4.out.1 (by decide) hu⟩
  clear hr hu
  go_wp2_with fail
  obtain ⟨W5, hW5⟩ : ∃ W, a5 = W := ⟨_, rfl⟩
  have S5 := P5
  rw [hW5] at S5 ⊢
  clear hW5 P5
  refine (ptruth_any b s c5 W5 S5.out.1 F5.out hs).mono ?_
  intro e a6 hp
  cases q6 : rB s c5 with
  | none =>
    rw [q6] at hp
    obtain ⟨rfl, hu⟩ := hp
    simp only [BadE]
    go_wp2
    exact ⟨rfl, by rw [show rCue s a = none from by simp [rCue, rMap, rCue9, rThen, Q1.out, Q2.out, Q3.out, Q4.out, Q5.out, q6]]; exact ⟨rfl, upd_trans S5.out.2.2.2.1 hu⟩⟩
  | some y =>
  obtain ⟨b6, c6⟩ := y
  have F6 := Lib.hid (fwd_rB s c5 b6 c6 q6 F5.out).2
  rw [q6] at hp
  have Q6 := Lib.hid q6
  clear q6
  obtain ⟨rfl, hr, hu⟩ := hp
  have P6 : Hid (PRd a6 b s c6 ∧ RowAt a6 w.heap.size 64 #[.string ⟨#[]⟩, .string ⟨#[]⟩, .slice none 0 0, .slice none 0 0, .bool false, .bool false, .int .i64 0, .string ⟨#[]⟩, .int .i64 0] ∧ RowAt a6 (w.heap.size + 1) 64 #[.string t1, .string t2, .slice ad1 l3.length cp1, .slice ad2 l4.length cp2, .bool false, .bool false, .int .i64 0, .string ⟨#[]⟩, .int .i64 0] ∧ Upd b w a6 ∧ a6.ownsRow w.heap.size 237 5 (.slice ad1 l3.length cp1) l3.length (genL mvA l3) ∧ a6.ownsRow w.heap.size 142 6 (.slice ad2 l4.length cp2) l4.length (genL timA l4)) := Lib.hid ⟨hr, RowAt.upd S5.out.2.1 hu (by omega), RowAt.upd S5.out.2.2.1 hu (by omega), upd_trans S5.out.2.2.2.1 hu, own_upd S5.out.2.2.2.2.1 S5.out.1 (by decide) hu, own_upd S5.out.2.2.2.2.2 S5.out.1 (by decide) hu⟩
  clear hr hu
  obtain ⟨x1, x2, x3, x4, x5, x6⟩ := row_facts P6.out.2.2.1
  go_wp2_with fail
  obtain ⟨W6, hW6⟩ : ∃ W, ((a6.setCell ⟨w.heap.size + 1, 4, none⟩ (.bool b5)).setCell ⟨w.heap.size + 1, 5, none⟩ (.bool b6)) = W := ⟨_, rfl⟩
  have S6 := Lib.hid (show PRd W6 b s c6 ∧ RowAt W6 w.heap.size 64 #[.string ⟨#[]⟩, .string ⟨#[]⟩, .slice none 0 0, .slice none 0 0, .bool false, .bool false, .int .i64 0, .string ⟨#[]⟩, .int .i64 0] ∧ RowAt W6 (w.heap.size + 1) 64 #[.string t1, .string t2, .slice ad1 l3.length cp1, .slice ad2 l4.length cp2, .bool b5, .bool b6, .int .i64 0, .string ⟨#[]⟩, .int .i64 0] ∧ Upd b w W6 ∧ W6.ownsRow w.heap.size 237 5 (.slice ad1 l3.length cp1) l3.length (genL mvA l3) ∧ W6.ownsRow w.heap.size 142 6 (.slice ad2 l4.length cp2) l4.length (genL timA l4) from by
    rw [← hW6]
    have r0 : RowAt (a6.setCell ⟨w.heap.size + 1, 4, none⟩ (.bool b5)) (w.heap.size + 1) 64 #[.string t1, .string t2, .slice ad1 l3.length cp1, .slice ad2 l4.length cp2, .bool b5, .bool false, .int .i64 0, .string ⟨#[]⟩, .int .i64 0] := RowAt.set P6.out.2.2.1 rfl
    have p0 : PRd (a6.setCell ⟨w.heap.size + 1, 4, none⟩ (.bool b5)) b s c6 := RowAt.far1 P6.out.1 (by omega)
    have z0 : RowAt (a6.setCell ⟨w.heap.size + 1, 4, none⟩ (.bool b5)) w.heap.size 64 #[.string ⟨#[]⟩, .string ⟨#[]⟩, .slice none 0 0, .slice none 0 0, .bool false, .bool false, .int .i64 0, .string ⟨#[]⟩, .int .i64 0] := RowAt.far1 P6.out.2.1 (by omega)
    have u0 : Upd b w (a6.setCell ⟨w.heap.size + 1, 4, none⟩ (.bool b5)) := upd_far P6.out.2.2.2.1 (by show w.heap.size ≤ w.heap.size + 1; omega) _
    have o00 := own_upd P6.out.2.2.2.2.1 P6.out.2.2.1 (by decide) (upd_set (upd_refl (w.heap.size + 1) a6) 4 (.bool b5))
    have o01 := own_upd P6.out.2.2.2.2.2 P6.out.2.2.1 (by decide) (upd_set (upd_refl (w.heap.size + 1) a6) 4 (.bool b5))
    have r1 : RowAt ((a6.setCell ⟨w.heap.size + 1, 4, none⟩ (.bool b5)).setCell ⟨w.heap.size + 1, 5, none⟩ (.bool b6)) (w.heap.size + 1) 64 #[.string t1, .string t2, .slice ad1 l3.length cp1, .slice ad2 l4.length cp2, .bool b5, .bool b6, .int .i64 0, .string ⟨#[]⟩, .int .i64 0] := RowAt.set r0 rfl
    have p1 : PRd ((a6.setCell ⟨w.heap.size + 1, 4, none⟩ (.bool b5)).setCell ⟨w.heap.size + 1, 5, none⟩ (.bool b6)) b s c6 := RowAt.far1 p0 (by omega)
    have z1 : RowAt ((a6.setCell ⟨w.heap.size + 1, 4, none⟩ (.bool b5)).setCell ⟨w.heap.size + 1, 5, none⟩ (.bool b6)) w.heap.size 64 #[.string ⟨#[]⟩, .string ⟨#[]⟩, .slice none 0 0, .slice none 0 0, .bool false, .bool false, .int .i64 0, .string ⟨#[]⟩, .int .i64 0] := RowAt.far1 z0 (by omega)
    have u1 : Upd b w ((a6.setCell ⟨w.heap.size + 1, 4, none⟩ (.bool b5)).setCell ⟨w.heap.size + 1, 5, none⟩ (.bool b6)) := upd_far u0 (by show w.heap.size ≤ w.heap.size + 1; omega) _
    have o10 := own_upd o00 r0 (by decide) (upd_set (upd_refl (w.heap.size + 1) (a6.setCell ⟨w.heap.size + 1, 4, none⟩ (.bool b5))) 5 (.bool b6))
    have o11 := own_upd o01 r0 (by decide) (upd_set (upd_refl (w.heap.size + 1) (a6.setCell ⟨w.heap.size + 1, 4, none⟩ (.bool b5))) 5 (.bool b6))
    exact ⟨p1, z1, r1, u1, o10, o11⟩)
  rw [hW6]
  clear hW6 P6 x1 x2 x3 x4 x5 x6
  refine (pint_any b s c6 W6 S6.out.1 F6.out hs).mono ?_
  intro e a7 hp
  cases q7 : rI s c6 with
  | none =>
    rw [q7] at hp
    obtain ⟨rfl, hu⟩ := hp
    simp only [BadE]
    go_wp2
    exact ⟨rfl, by rw [show rCue s a = none from by simp [rCue, rMap, rCue9, rThen, Q1.out, Q2.out, Q3.out, Q4.out, Q5.out, Q6.out, q7]]; exact ⟨rfl, upd_trans S6.out.2.2.2.1 hu⟩⟩
  | some y =>
  obtain ⟨n7, c7⟩ := y
  have F7 := Lib.hid (fwd_rI s c6 n7 c7 q7 F6.out).2
  rw [q7] at hp
  have Q7 := Lib.hid q7
  clear q7
  obtain ⟨rfl, hr, hu⟩ := hp
  have P7 : Hid (PRd a7 b s c7 ∧ RowAt a7 w.heap.size 64 #[.string ⟨#[]⟩, .string ⟨#[]⟩, .slice none 0 0, .slice none 0 0, .bool false, .bool false, .int .i64 0, .string ⟨#[]⟩, .int .i64 0] ∧ RowAt a7 (w.heap.size + 1) 64 #[.string t1, .string t2, .slice ad1 l3.length cp1, .slice ad2 l4.length cp2, .bool b5, .bool b6, .int .i64 0, .string ⟨#[]⟩, .int .i64 0] ∧ Upd b w a7 ∧ a7.ownsRow w.heap.size 237 5 (.slice ad1 l3.length cp1) l3.length (genL mvA l3) ∧ a7.ownsRow w.heap.size 142 6 (.slice ad2 l4.length cp2) l4.length (genL timA l4)) := Lib.hid ⟨hr, RowAt.upd S6.out.2.1 hu (by omega), RowAt.upd S6.out.2.2.1 hu (by omega), upd_trans S6.out.2.2.2.1 hu, own_upd S6.out.2.2.2.2.1 S6.out.1 (by decide) hu, own_upd S6.out.2.2.2.2.2 S6.out.1 (by decide) hu⟩
  clear hr hu
  obtain ⟨x1, x2, x3, x4, x5, x6⟩ := row_facts P7.out.2.2.1
  go_wp2_with fail
  obtain ⟨W7, hW7⟩ : ∃ W, (a7.setCell ⟨w.heap.size + 1, 6, none⟩ (.int .i64 n7)) = W := ⟨_, rfl⟩
  have S7 := Lib.hid (show PRd W7 b s c7 ∧ RowAt W7 w.heap.size 64 #[.string ⟨#[]⟩, .string ⟨#[]⟩, .slice none 0 0, .slice none 0 0, .bool false, .bool false, .int .i64 0, .string ⟨#[]⟩, .int .i64 0] ∧ RowAt W7 (w.heap.size + 1) 64 #[.string t1, .string t2, .slice ad1 l3.length cp1, .slice ad2 l4.length cp2, .bool b5, .bool b6, .int .i64 n7, .string ⟨#[]⟩, .int .i64 0] ∧ Upd b w W7 ∧ W7.ownsRow w.heap.size 237 5 (.slice ad1 l3.length cp1) l3.length (genL mvA l3) ∧ W7.ownsRow w.heap.size 142 6 (.slice ad2 l4.length cp2) l4.length (genL timA l4) from by
    rw [← hW7]
    have r0 : RowAt (a7.setCell ⟨w.heap.size + 1, 6, none⟩ (.int .i64 n7)) (w.heap.size + 1) 64 #[.string t1, .string t2, .slice ad1 l3.length cp1, .slice ad2 l4.length cp2, .bool b5, .bool b6, .int .i64 n7, .string ⟨#[]⟩, .int .i64 0] := RowAt.set P7.out.2.2.1 rfl
    have p0 : PRd (a7.setCell ⟨w.heap.size + 1, 6, none⟩ (.int .i64 n7)) b s c7 := RowAt.far1 P7.out.1 (by omega)
    have z0 : RowAt (a7.setCell ⟨w.heap.size + 1, 6, none⟩ (.int .i64 n7)) w.heap.size 64 #[.string ⟨#[]⟩, .string ⟨#[]⟩, .slice none 0 0, .slice none 0 0, .bool false, .bool false, .int .i64 0, .string ⟨#[]⟩, .int .i64 0] := RowAt.far1 P7.out.2.1 (by omega)
    have u0 : Upd b w (a7.setCell ⟨w.heap.size + 1, 6, none⟩ (.int .i64 n7)) := upd_far P7.out.2.2.2.1 (by show w.heap.size ≤ w.heap.size + 1; omega) _
    have o00 := own_upd P7.out.2.2.2.2.1 P7.out.2.2.1 (by decide) (upd_set (upd_refl (w.heap.size + 1) a7) 6 (.int .i64 n7))
    have o01 := own_upd P7.out.2.2.2.2.2 P7.out.2.2.1 (by decide) (upd_set (upd_refl (w.heap.size + 1) a7) 6 (.int .i64 n7))
    exact ⟨p0, z0, r0, u0, o00, o01⟩)
  rw [hW7]
  clear hW7 P7 x1 x2 x3 x4 x5 x6
  refine (ptext_any b s c7 W7 S7.out.1 F7.out hs).mono ?_
  intro e a8 hp
  cases q8 : rT s c7 with
  | none =>
    rw [q8] at hp
    obtain ⟨rfl, hu⟩ := hp
    simp only [BadE]
    go_wp2
    exact ⟨rfl, by rw [show rCue s a = none from by simp [rCue, rMap, rCue9, rThen, Q1.out, Q2.out, Q3.out, Q4.out, Q5.out, Q6.out, Q7.out, q8]]; exact ⟨rfl, upd_trans S7.out.2.2.2.1 hu⟩⟩
  | some y =>
  obtain ⟨t8, c8⟩ := y
  have F8 := Lib.hid (fwd_rT s c7 t8 c8 q8 F7.out).2
  rw [q8] at hp
  have Q8 := Lib.hid q8
  clear q8
  obtain ⟨rfl, hr, hu⟩ := hp
  have P8 : Hid (PRd a8 b s c8 ∧ RowAt a8 w.heap.size 64 #[.string ⟨#[]⟩, .string ⟨#[]⟩, .slice none 0 0, .slice none 0 0, .bool false, .bool false, .int .i64 0, .string ⟨#[]⟩, .int .i64 0] ∧ RowAt a8 (w.heap.size + 1) 64 #[.string t1, .string t2, .slice ad1 l3.length cp1, .slice ad2 l4.length cp2, .bool b5, .bool b6, .int .i64 n7, .string ⟨#[]⟩, .int .i64 0] ∧ Upd b w a8 ∧ a8.ownsRow w.heap.size 237 5 (.slice ad1 l3.length cp1) l3.length (genL mvA l3) ∧ a8.ownsRow w.heap.size 142 6 (.slice ad2 l4.length cp2) l4.length (genL timA l4)) := Lib.hid ⟨hr, RowAt.upd S7.out.2.1 hu (by omega), RowAt.upd S7.out.2.2.1 hu (by omega), upd_trans S7.out.2.2.2.1 hu, own_upd S7.out.2.2.2.2.1 S7.out.1 (by decide) hu, own_upd S7.out.2.2.2.2.2 S7.out.1 (by decide) hu⟩
  clear hr hu
  obtain ⟨x1, x2, x3, x4, x5, x6⟩ := row_facts P8.out.2.2.1
  go_wp2_with fail
  obtain ⟨W8, hW8⟩ : ∃ W, (a8.setCell ⟨w.heap.size + 1, 7, none⟩ (.string t8)) = W := ⟨_, rfl⟩
  have S8 := Lib.hid (show PRd W8 b s c8 ∧ RowAt W8 w.heap.size 64 #[.string ⟨#[]⟩, .string ⟨#[]⟩, .slice none 0 0, .slice none 0 0, .bool false, .bool false, .int .i64 0, .string ⟨#[]⟩, .int .i64 0] ∧ RowAt W8 (w.heap.size + 1) 64 #[.string t1, .string t2, .slice ad1 l3.length cp1, .slice ad2 l4.length cp2, .bool b5, .bool b6, .int .i64 n7, .string t8, .int .i64 0] ∧ Upd b w W8 ∧ W8.ownsRow w.heap.size 237 5 (.slice ad1 l3.length cp1) l3.length (genL mvA l3) ∧ W8.ownsRow w.heap.size 142 6 (.slice ad2 l4.length cp2) l4.length (genL timA l4) from by
    rw [← hW8]
    have r0 : RowAt (a8.setCell ⟨w.heap.size + 1, 7, none⟩ (.string t8)) (w.heap.size + 1) 64 #[.string t1, .string t2, .slice ad1 l3.length cp1, .slice ad2 l4.length cp2, .bool b5, .bool b6, .int .i64 n7, .string t8, .int .i64 0] := RowAt.set P8.out.2.2.1 rfl
    have p0 : PRd (a8.setCell ⟨w.heap.size + 1, 7, none⟩ (.string t8)) b s c8 := RowAt.far1 P8.out.1 (by omega)
    have z0 : RowAt (a8.setCell ⟨w.heap.size + 1, 7, none⟩ (.string t8)) w.heap.size 64 #[.string ⟨#[]⟩, .string ⟨#[]⟩, .slice none 0 0, .slice none 0 0, .bool false, .bool false, .int .i64 0, .string ⟨#[]⟩, .int .i64 0] := RowAt.far1 P8.out.2.1 (by omega)
    have u0 : Upd b w (a8.setCell ⟨w.heap.size + 1, 7, none⟩ (.string t8)) := upd_far P8.out.2.2.2.1 (by show w.heap.size ≤ w.heap.size + 1; omega) _
    have o00 := own_upd P8.out.2.2.2.2.1 P8.out.2.2.1 (by decide) (upd_set (upd_refl (w.heap.size + 1) a8) 7 (.string t8))
    have o01 := own_upd P8.out.2.2.2.2.2 P8.out.2.2.1 (by decide) (upd_set (upd_refl (w.heap.size + 1) a8) 7 (.string t8))
    exact ⟨p0, z0, r0, u0, o00, o01⟩)
  rw [hW8]
  clear hW8 P8 x1 x2 x3 x4 x5 x6
  refine (pint_any b s c8 W8 S8.out.1 F8.out hs).mono ?_
  intro e a9 hp
  cases q9 : rI s c8 with
  | none =>
    rw [q9] at hp
    obtain ⟨rfl, hu⟩ := hp
    simp only [BadE]
    go_wp2
    exact ⟨rfl, by rw [show rCue s a = none from by simp [rCue, rMap, rCue9, rThen, Q1.out, Q2.out, Q3.out, Q4.out, Q5.out, Q6.out, Q7.out, Q8.out, q9]]; exact ⟨rfl, upd_trans S8.out.2.2.2.1 hu⟩⟩
  | some y =>
  obtain ⟨n9, c9⟩ := y
  have F9 := Lib.hid (fwd_rI s c8 n9 c9 q9 F8.out).2
  rw [q9] at hp
  have Q9 := Lib.hid q9
  clear q9
  obtain ⟨rfl, hr, hu⟩ := hp
  have P9 : Hid (PRd a9 b s c9 ∧ RowAt a9 w.heap.size 64 #[.string ⟨#[]⟩, .string ⟨#[]⟩, .slice none 0 0, .slice none 0 0, .bool false, .bool false, .int .i64 0, .string ⟨#[]⟩, .int .i64 0] ∧ RowAt a9 (w.heap.size + 1) 64 #[.string t1, .string t2, .slice ad1 l3.length cp1, .slice ad2 l4.length cp2, .bool b5, .bool b6, .int .i64 n7, .string t8, .int .i64 0] ∧ Upd b w a9 ∧ a9.ownsRow w.heap.size 237 5 (.slice ad1 l3.length cp1) l3.length (genL mvA l3) ∧ a9.ownsRow w.heap.size 142 6 (.slice ad2 l4.length cp2) l4.length (genL timA l4)) := Lib.hid ⟨hr, RowAt.upd S8.out.2.1 hu (by omega), RowAt.upd S8.out.2.2.1 hu (by omega), upd_trans S8.out.2.2.2.1 hu, own_upd S8.out.2.2.2.2.1 S8.out.1 (by decide) hu, own_upd S8.out.2.2.2.2.2 S8.out.1 (by decide) hu⟩
  clear hr hu
  obtain ⟨x1, x2, x3, x4, x5, x6⟩ := row_facts P9.out.2.2.1
  obtain ⟨y1, y2, y3, y4, y5, y6⟩ := row_facts P9.out.2.1
  go_wp2
  have hG : RowAt (a9.setCell ⟨w.heap.size + 1, 8, none⟩ (.int .i64 n9)) w.heap.size 64 #[.string ⟨#[]⟩, .string ⟨#[]⟩, .slice none 0 0, .slice none 0 0, .bool false, .bool false, .int .i64 0, .string ⟨#[]⟩, .int .i64 0] := RowAt.far1 P9.out.2.1 (by omega)
  obtain ⟨Wz, hWz⟩ : ∃ W, ((((((((((a9.setCell ⟨w.heap.size + 1, 8, none⟩ (.int .i64 n9)).setCell ⟨w.heap.size, 0, none⟩ (.string t1)).setCell ⟨w.heap.size, 1, none⟩ (.string t2)).setCell ⟨w.heap.size, 2, none⟩ (.slice ad1 l3.length cp1)).setCell ⟨w.heap.size, 3, none⟩ (.slice ad2 l4.length cp2)).setCell ⟨w.heap.size, 4, none⟩ (.bool b5)).setCell ⟨w.heap.size, 5, none⟩ (.bool b6)).setCell ⟨w.heap.size, 6, none⟩ (.int .i64 n7)).setCell ⟨w.heap.size, 7, none⟩ (.string t8)).setCell ⟨w.heap.size, 8, none⟩ (.int .i64 n9)) = W := ⟨_, rfl⟩
  have hF : RowAt Wz w.heap.size 64 #[.string t1, .string t2, .slice ad1 l3.length cp1, .slice ad2 l4.length cp2, .bool b5, .bool b6, .int .i64 n7, .string t8, .int .i64 n9] := by
    rw [← hWz]
    exact RowAt.nine hG
  have hU : Upd b w Wz := by
    rw [← hWz]
    exact upd_far9 (upd_far P9.out.2.2.2.1 (by show w.heap.size ≤ w.heap.size + 1; omega) _) (Nat.le_refl _)
  have hR : PRd Wz b s c9 := by
    rw [← hWz]
    exact RowAt.far9 (RowAt.far1 P9.out.1 (by omega)) (by omega)
  have hu9 : Upd w.heap.size (a9.setCell ⟨w.heap.size + 1, 8, none⟩ (.int .i64 n9)) Wz := by
    rw [← hWz]
    exact upd_set9
  have hur : Upd (w.heap.size + 1) a9 (a9.setCell ⟨w.heap.size + 1, 8, none⟩ (.int .i64 n9)) := upd_set (upd_refl _ _) _ _
  have ho1 := own_upd (own_upd P9.out.2.2.2.2.1 P9.out.2.2.1 (by decide) hur) hG (by decide) hu9
  have ho2 := own_upd (own_upd P9.out.2.2.2.2.2 P9.out.2.2.1 (by decide) hur) hG (by decide) hu9
  rw [hWz]
  have f0 := cell_h hF 0
  have f1 := cell_h hF 1
  have f2 := cell_h hF 2
  have f3 := cell_h hF 3
  have f4 := cell_h hF 4
  have f5 := cell_h hF 5
  have f6 := cell_h hF 6
  have f7 := cell_h hF 7
  have f8 := cell_h hF 8
  simp only [List.getElem?_toArray] at f0 f1 f2 f3 f4 f5 f6 f7 f8
  have hl1 := HC1.out
  have hl2 := HC2.out
  refine bodyPost_ret (v := .agg #[.string t1, .string t2, .slice ad1 l3.length cp1, .slice ad2 l4.length cp2, .bool b5, .bool b6, .int .i64 n7, .string t8, .int .i64 n9]) ?_ rfl ?_
  · simp [results, Tryz.results75, go_sem, f0, f1, f2, f3, f4, f5, f6, f7, f8]
  rw [show rCue s a = some (⟨t1, t2, l3, l4, b5, b6, n7, t8, n9⟩, c9) from by simp [rCue, rMap, rCue9, rThen, cueOf, Q1.out, Q2.out, Q3.out, Q4.out, Q5.out, Q6.out, Q7.out, Q8.out, Q9.out]]
  exact ⟨_, _, rfl, hR, hU, ⟨own_list (by decide) mvA_size ho1 (Nat.le_trans hl1.2 (Nat.le_trans hs (by decide))), own_list (by decide) timA_size ho2 (Nat.le_trans hl2.2 (Nat.le_trans hs (by decide)))⟩, (fun x n c e => by cases e; exact hl1.1), own_new ho1, own_new ho2⟩

end Go.Proofs.YtjeigphhepngmaaGreatDoor
