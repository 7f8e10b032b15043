/-
  The reader of integers and texts: GetInt, GetText of record.
-/
import Derived.StillTailTactics
import Derived.Test.YtjeigphhepngmaaGreatDoorYp
namespace Go.Proofs.YtjeigphhepngmaaGreatDoor
open Go.RowKit

/-- What GetInt and GetText hand back. -/
def intV (r : Except Int (Int × Nat)) : Value := match r with | .ok (n, nx) => .tuple #[.int .i64 n, .int .i64 (nx : Int), .int .i64 0] | .error c => .tuple #[.int .i64 0, .int .i64 0, .int .i64 c]
def textV (r : Except Int (ByteArray × Nat)) : Value := match r with | .ok (t, nx) => .tuple #[.string t, .int .i64 (nx : Int), .int .i64 0] | .error c => .tuple #[.string ⟨#[]⟩, .int .i64 0, .int .i64 c]

set_option maxHeartbeats 1000000 in
set_option maxRecDepth 100000 in
theorem egetint_any (s : ByteArray) (a : Nat) (w : World) (ha : a ≤ s.size) (hs : s.size ≤ 1000000) :
    Calls Tryz.prog 264 #[.string s, .int .i64 (a : Int)] w fun e w' => e = .returned (intV (getI s a)) ∧ Below w.heap.size w w' := by
  have C1 := Lib.hid (echeck_any w.heap.size s a (w.alloc (.cells #[.string s, .int .i64 (a : Int)] 317)) (RowAt.new _ _ _) ha)
  have C2 := Lib.hid (fun W (h : ERd W w.heap.size s a) => eintR_any w.heap.size s a W h ha hs)
  clear ha hs
  cases hx : getI s a with
  | error c =>
    have HX := Lib.hid hx
    have hc : c = 20 ∨ c = 3 := getI_err hx
    have hc0 : (c != 0) = true := by rw [bne_iff_ne]; omega
    clear hx
    go_enter Tryz.func264, Tryz.ntmps264
    go_wp2_with fail
    refine C1.out.mono ?_
    rintro e w1 ⟨rfl, hb1⟩
    have hr : ERd w1 w.heap.size s a := RowAt.run (RowAt.new _ _ _) hb1
    have HB := Lib.hid hb1
    clear hb1
    go_wp2_with fail
    refine (C2.out _ hr).mono ?_
    rintro e w2 hp
    unfold IntPost at hp
    rw [HX.out] at hp
    obtain ⟨rfl, ⟨x, hr2⟩, hu⟩ := hp
    have HU := Lib.hid (below_of_upd (a := w) (below_after ((Below.refl _ _).alloc (Nat.le_refl _) _) (by simp) HB.out) hu (Nat.le_refl _))
    clear hu hr hr2
    go_wp2
    go_ret3
    exact ⟨rfl, HU.out⟩
  | ok y =>
    obtain ⟨n, nx⟩ := y
    have HX := Lib.hid hx
    clear hx
    go_enter Tryz.func264, Tryz.ntmps264
    go_wp2_with fail
    refine C1.out.mono ?_
    rintro e w1 ⟨rfl, hb1⟩
    have hr : ERd w1 w.heap.size s a := RowAt.run (RowAt.new _ _ _) hb1
    have HB := Lib.hid hb1
    clear hb1
    go_wp2_with fail
    refine (C2.out _ hr).mono ?_
    rintro e w2 hp
    unfold IntPost at hp
    rw [HX.out] at hp
    obtain ⟨rfl, hr2, hu⟩ := hp
    have HU := Lib.hid (below_of_upd (a := w) (below_after ((Below.refl _ _).alloc (Nat.le_refl _) _) (by simp) HB.out) hu (Nat.le_refl _))
    obtain ⟨x1, x2, x3, x4, x5, x6⟩ := row_facts hr2
    clear hu hr hr2
    go_wp2
    go_quiet (fail)
    go_wp2
    go_ret3
    exact ⟨rfl, by have := HU.out; (repeat' (first | (with_reducible exact Below.refl _ _) | (with_reducible assumption) | (with_reducible refine below_run ?_ (by assumption)) | (with_reducible refine below_of_upd ?_ (by assumption) ?_) | (with_reducible refine below_drewN ?_ _) | (with_reducible refine Below.drew ?_) | (with_reducible refine below_seven ?_ ?_) | (with_reducible refine below_six ?_ ?_) | (with_reducible refine below_one ?_ ?_) | (with_reducible refine Below.alloc ?_ ?_ _) | (with_reducible refine below_after ?_ ?_ (by assumption)) | (show _ ≤ _; first | omega | (simp; done) | (simp; omega))))⟩

/-- What the reader says of a text. -/
def TextPost (b : Nat) (s : ByteArray) (a : Nat) (w : World) (e : Ending) (w' : World) : Prop :=
  match getT s a with
  | .ok (t, nx) => e = .returned (.tuple #[.string t, .int .i64 0]) ∧ ERd w' b s nx ∧ Upd b w w'
  | .error c => e = .returned (.tuple #[.string ⟨#[]⟩, .int .i64 c]) ∧ (∃ x, ERd w' b s x) ∧ Upd b w w'
theorem textPost_err {b : Nat} {s : ByteArray} {a x : Nat} {c : Int} {w w' : World} {e : Ending} (h : getT s a = .error c) (he : e = .returned (.tuple #[.string ⟨#[]⟩, .int .i64 c])) (hr : ERd w' b s x) (hu : Upd b w w') : TextPost b s a w e w' := by
  unfold TextPost
  rw [h]
  exact ⟨he, ⟨x, hr⟩, hu⟩
theorem textPost_ok {b : Nat} {s t : ByteArray} {a nx : Nat} {w w' : World} {e : Ending} (h : getT s a = .ok (t, nx)) (he : e = .returned (.tuple #[.string t, .int .i64 0])) (hr : ERd w' b s nx) (hu : Upd b w w') : TextPost b s a w e w' := by
  unfold TextPost
  rw [h]
  exact ⟨he, hr, hu⟩
set_option maxHeartbeats 1000000 in
set_option maxRecDepth 100000 in
theorem etextR_any (b : Nat) (s : ByteArray) (a : Nat) (w : World) (h : ERd w b s a) (ha : a ≤ s.size) (hs : s.size ≤ 1000000) :
    Calls Tryz.prog 295 #[.pointer (some ⟨b, 0, none⟩)] w fun e w' => TextPost b s a w e w' := by
  have C1 := Lib.hid (eintR_any b s a w h ha hs)
  clear h
  cases hx : getI s a with
  | error c =>
    have hc : c = 20 ∨ c = 3 := getI_err hx
    have hc0 : (c != 0) = true := by rw [bne_iff_ne]; omega
    have HT := Lib.hid (show getT s a = .error c from by unfold getT; rw [hx])
    have HX := Lib.hid hx
    clear hx
    go_enter Tryz.func295, Tryz.ntmps295
    go_wp2_with fail
    refine C1.out.mono ?_
    rintro e w2 hp
    unfold IntPost at hp
    rw [HX.out] at hp
    obtain ⟨rfl, ⟨x, hr2⟩, hu⟩ := hp
    have HU := Lib.hid hu
    clear hu
    go_wp2
    go_ret2
    exact textPost_err HT.out rfl hr2 HU.out
  | ok y =>
    obtain ⟨n, nx⟩ := y
    obtain ⟨m1, m2⟩ := getI_ok hx ha
    have HX := Lib.hid hx
    have HT0 : getT s a = if n < 0 ∨ 65535 < n then .error 3 else if (s.size : Int) - nx < n then .error 20 else .ok (s.extract nx (nx + n.toNat), nx + n.toNat) := by unfold getT; rw [hx]
    clear hx
    by_cases k1 : n < 0 ∨ 65535 < n
    · rw [if_pos k1] at HT0
      have HT := Lib.hid HT0
      clear HT0
      go_enter Tryz.func295, Tryz.ntmps295
      go_wp2_with fail
      refine C1.out.mono ?_
      rintro e w2 hp
      unfold IntPost at hp
      rw [HX.out] at hp
      obtain ⟨rfl, hr2, hu⟩ := hp
      have HU := Lib.hid hu
      clear hu
      go_wp2
      all_goals go_ret2
      all_goals exact textPost_err HT.out rfl hr2 HU.out
    · obtain ⟨q, rfl⟩ : ∃ q : Nat, n = (q : Int) := ⟨n.toNat, by omega⟩
      have q1 : ¬ (q : Int) < 0 := by omega
      have q2 : ¬ 65535 < (q : Int) := by omega
      rw [if_neg k1] at HT0
      have C2 := fun W (hw : ERd W b s nx) => ehas_any b s nx (q : Int) W hw m2 hs (by omega)
      by_cases k2 : (s.size : Int) - nx < (q : Int)
      · rw [if_pos k2] at HT0
        have HT := Lib.hid HT0
        have hd : decide ((q : Int) ≤ (s.size : Int) - (nx : Int)) = false := by simp; omega
        rw [hd] at C2
        have H2 := Lib.hid C2
        clear HT0 hd C2 k1 k2
        go_enter Tryz.func295, Tryz.ntmps295
        go_wp2_with fail
        refine C1.out.mono ?_
        rintro e w2 hp
        unfold IntPost at hp
        rw [HX.out] at hp
        obtain ⟨rfl, hr2, hu⟩ := hp
        have HU := Lib.hid hu
        clear hu
        go_wp2_with fail
        refine (H2.out _ hr2).mono ?_
        rintro e w3 ⟨rfl, hb3⟩
        have HB := Lib.hid hb3
        clear hb3
        go_wp2
        go_ret2
        exact textPost_err HT.out rfl (RowAt.run hr2 HB.out) (upd_below HU.out HB.out)
      · rw [if_neg k2] at HT0
        have HT := Lib.hid HT0
        have hd : decide ((q : Int) ≤ (s.size : Int) - (nx : Int)) = true := by simp; omega
        rw [hd] at C2
        have H2 := Lib.hid C2
        have H3 := Lib.hid (fun W (hw : ERd W b s nx) => etake_any b s nx q W hw (by omega) hs)
        clear HT0 hd C2 k1 k2
        go_enter Tryz.func295, Tryz.ntmps295
        go_wp2_with fail
        refine C1.out.mono ?_
        rintro e w2 hp
        unfold IntPost at hp
        rw [HX.out] at hp
        obtain ⟨rfl, hr2, hu⟩ := hp
        have HU := Lib.hid hu
        clear hu
        go_wp2_with fail
        refine (H2.out _ hr2).mono ?_
        rintro e w3 ⟨rfl, hb3⟩
        have HB := Lib.hid hb3
        have hr3 : ERd w3 b s nx := RowAt.run hr2 HB.out
        clear hb3 hr2
        go_wp2_with fail
        refine (H3.out _ hr3).mono ?_
        rintro e w4 ⟨rfl, hr4, hu4⟩
        have HU4 := Lib.hid hu4
        clear hu4
        go_wp2
        go_ret2
        exact textPost_ok HT.out rfl hr4 (upd_upd (upd_below HU.out HB.out) HU4.out)

set_option maxHeartbeats 1000000 in
set_option maxRecDepth 100000 in
theorem egettext_any (s : ByteArray) (a : Nat) (w : World) (ha : a ≤ s.size) (hs : s.size ≤ 1000000) :
    Calls Tryz.prog 261 #[.string s, .int .i64 (a : Int)] w fun e w' => e = .returned (textV (getT s a)) ∧ Below w.heap.size w w' := by
  have C1 := Lib.hid (echeck_any w.heap.size s a (w.alloc (.cells #[.string s, .int .i64 (a : Int)] 317)) (RowAt.new _ _ _) ha)
  have C2 := Lib.hid (fun W (h : ERd W w.heap.size s a) => etextR_any w.heap.size s a W h ha hs)
  clear ha hs
  cases hx : getT s a with
  | error c =>
    have HX := Lib.hid hx
    have hc : c = 20 ∨ c = 3 := getT_err hx
    have hc0 : (c != 0) = true := by rw [bne_iff_ne]; omega
    clear hx
    go_enter Tryz.func261, Tryz.ntmps261
    go_wp2_with fail
    refine C1.out.mono ?_
    rintro e w1 ⟨rfl, hb1⟩
    have hr : ERd w1 w.heap.size s a := RowAt.run (RowAt.new _ _ _) hb1
    have HB := Lib.hid hb1
    clear hb1
    go_wp2_with fail
    refine (C2.out _ hr).mono ?_
    rintro e w2 hp
    unfold TextPost at hp
    rw [HX.out] at hp
    obtain ⟨rfl, ⟨x, hr2⟩, hu⟩ := hp
    have HU := Lib.hid (below_of_upd (a := w) (below_after ((Below.refl _ _).alloc (Nat.le_refl _) _) (by simp) HB.out) hu (Nat.le_refl _))
    clear hu hr hr2
    go_wp2
    go_ret3
    exact ⟨rfl, HU.out⟩
  | ok y =>
    obtain ⟨n, nx⟩ := y
    have HX := Lib.hid hx
    clear hx
    go_enter Tryz.func261, Tryz.ntmps261
    go_wp2_with fail
    refine C1.out.mono ?_
    rintro e w1 ⟨rfl, hb1⟩
    have hr : ERd w1 w.heap.size s a := RowAt.run (RowAt.new _ _ _) hb1
    have HB := Lib.hid hb1
    clear hb1
    go_wp2_with fail
    refine (C2.out _ hr).mono ?_
    rintro e w2 hp
    unfold TextPost at hp
    rw [HX.out] at hp
    obtain ⟨rfl, hr2, hu⟩ := hp
    have HU := Lib.hid (below_of_upd (a := w) (below_after ((Below.refl _ _).alloc (Nat.le_refl _) _) (by simp) HB.out) hu (Nat.le_refl _))
    obtain ⟨x1, x2, x3, x4, x5, x6⟩ := row_facts hr2
    clear hu hr hr2
    go_wp2
    go_quiet (fail)
    go_wp2
    go_ret3
    exact ⟨rfl, by have := HU.out; (repeat' (first | (with_reducible exact Below.refl _ _) | (with_reducible assumption) | (with_reducible refine below_run ?_ (by assumption)) | (with_reducible refine below_of_upd ?_ (by assumption) ?_) | (with_reducible refine below_drewN ?_ _) | (with_reducible refine Below.drew ?_) | (with_reducible refine below_seven ?_ ?_) | (with_reducible refine below_six ?_ ?_) | (with_reducible refine below_one ?_ ?_) | (with_reducible refine Below.alloc ?_ ?_ _) | (with_reducible refine below_after ?_ ?_ (by assumption)) | (show _ ≤ _; first | omega | (simp; done) | (simp; omega))))⟩
end Go.Proofs.YtjeigphhepngmaaGreatDoor
