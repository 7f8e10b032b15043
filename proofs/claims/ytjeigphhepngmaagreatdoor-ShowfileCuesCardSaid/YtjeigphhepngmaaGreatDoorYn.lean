/-
  Right parts of cues: both sides; what comes behind a cue.
-/
import Derived.Test.YtjeigphhepngmaaGreatDoorYm
namespace Go.Proofs.YtjeigphhepngmaaGreatDoor
open Go.RowKit

theorem tim_cells {w : World} {b off : Nat} {l : List Tim} (hc : ∀ j, j < l.length * 6 → w.cell? ⟨b, off + j, none⟩ = genC 6 timA l j) (k : Nat) (d : Tim) (hd : l[k]? = some d) :
    w.cell? ⟨b, off + k * 6, none⟩ = some (.int .i64 d.up) ∧ w.cell? ⟨b, off + k * 6 + 1, none⟩ = some (.int .i64 d.down) ∧ w.cell? ⟨b, off + k * 6 + 2, none⟩ = some (.int .i64 d.pos) ∧ w.cell? ⟨b, off + k * 6 + 3, none⟩ = some (.int .i64 d.col) ∧ w.cell? ⟨b, off + k * 6 + 4, none⟩ = some (.int .i64 d.beam) ∧ w.cell? ⟨b, off + k * 6 + 5, none⟩ = some (.int .i64 d.del) := by
  obtain ⟨hk, hdk⟩ := List.getElem?_eq_some_iff.1 hd
  have g := fun i hi => gen_cell (S := 6) (f := timA) (by decide) hc k hk i hi
  rw [hdk] at g
  exact ⟨g 0 (by decide), g 1 (by decide), g 2 (by decide), g 3 (by decide), g 4 (by decide), g 5 (by decide)⟩

set_option maxHeartbeats 400000 in
theorem ristime_any (v : Int) (w : World) : Calls Tryz.prog 260 #[.int .i64 v] w fun e w' => e = .returned (.bool (timeOk v)) ∧ w = w' := by
  go_enter Tryz.func260, Tryz.ntmps260
  go_wp2
  all_goals go_ret
  all_goals exact ⟨ret_bool (by grind [timeOk]), rfl⟩

theorem allTo_succ {l : List Tim} {k : Nat} {d : Tim} (hd : l[k]? = some d) (hf : (l.take k).all timOk = true) (hb : timOk d = true) : (l.take (k + 1)).all timOk = true := by
  rw [take_succ_some hd, List.all_append, hf]
  simpa using hb
theorem allTo_bad {l : List Tim} {k : Nat} {d : Tim} (hd : l[k]? = some d) (hb : timOk d = false) : l.all timOk = false := by
  rw [List.all_eq_false]
  exact ⟨d, List.mem_of_getElem? hd, by simp [hb]⟩
theorem ptsE_few {l : List Tim} (h0 : 0 < l.length) (h4 : l.length ≤ 4) : ptsE l = if l.all timOk then 0 else 2 := by rw [ptsE, if_neg (by omega), if_neg (by omega)]

set_option maxHeartbeats 1000000 in
set_option maxRecDepth 100000 in
theorem rparts_any (v : Value) (l : List Tim) (w : World) (hv : ListAt 6 timA w v l) :
    Calls Tryz.prog 169 #[v] w fun e w' => e = .returned (.int .i64 (ptsE l)) ∧ Below w.heap.size w w' := by
  rcases hv with ⟨h0, a, cap, rfl⟩ | ⟨h0, h1, b, off, cap, rfl, hlt, hc⟩
  · have hl : l = [] := List.eq_nil_of_length_eq_zero h0
    subst hl
    go_enter Tryz.func169, Tryz.ntmps169
    go_wp2
    go_ret
    exact ⟨rfl, by (repeat' (first | (with_reducible exact Below.refl _ _) | (with_reducible assumption) | (with_reducible refine below_run ?_ (by assumption)) | (with_reducible refine below_of_upd ?_ (by assumption) ?_) | (with_reducible refine below_drewN ?_ _) | (with_reducible refine Below.drew ?_) | (with_reducible refine below_seven ?_ ?_) | (with_reducible refine below_six ?_ ?_) | (with_reducible refine below_one ?_ ?_) | (with_reducible refine Below.alloc ?_ ?_ _) | (with_reducible refine below_after ?_ ?_ (by assumption)) | (show _ ≤ _; first | omega | (simp; done) | (simp; omega))))⟩
  · have q0 : ((l.length : Int) == 0) = false := by rw [beq_eq_false_iff_ne]; omega
    by_cases h2 : l.length ≤ 4
    · have h3 : ¬ (4 : Int) < (l.length : Int) := by omega
      have h5 : (l.length : Int) ≤ 4 := by omega
      have HL := Lib.hid (ptsE_few h0 h2)
      go_enter Tryz.func169, Tryz.ntmps169
      go_wp2
      go_loopw [3, 4] (fun i _ wr => ∃ k : Nat, k ≤ l.length ∧ i = .int .i64 k ∧ Hid ((l.take k).all timOk = true) ∧ Below w.heap.size w wr) (fun i _ _ => l.length - (intOf i).toNat)
      case atStart => exact ⟨0, Nat.zero_le _, rfl, by simp [Hid], Below.refl _ _⟩
      case round =>
        obtain ⟨k, hk, rfl, hf, hb0⟩ := hrel
        by_cases hlt2 : k < l.length
        · have hlt3 : (k : Int) < (l.length : Int) := by omega
          have hc' : ∀ j, j < l.length * 6 → wr.cell? ⟨b, off + j, none⟩ = genC 6 timA l j := fun j hj => (hb0.cell (p := ⟨b, off + j, none⟩) hlt).trans (hc j hj)
          obtain ⟨d, hd⟩ : ∃ d, l[k]? = some d := ⟨_, List.getElem?_eq_getElem hlt2⟩
          obtain ⟨e0, e1, e2, e3, e4, e5⟩ := tim_cells hc' k d hd
          have HD := Lib.hid hd
          obtain ⟨q1, hq1⟩ : ∃ q, timeOk d.up = q := ⟨_, rfl⟩
          obtain ⟨q2, hq2⟩ : ∃ q, timeOk d.down = q := ⟨_, rfl⟩
          obtain ⟨q3, hq3⟩ : ∃ q, timeOk d.pos = q := ⟨_, rfl⟩
          obtain ⟨q4, hq4⟩ : ∃ q, timeOk d.col = q := ⟨_, rfl⟩
          obtain ⟨q5, hq5⟩ : ∃ q, timeOk d.beam = q := ⟨_, rfl⟩
          obtain ⟨q6, hq6⟩ : ∃ q, timeOk d.del = q := ⟨_, rfl⟩
          have C1 := fun W => ristime_any d.up W
          have C2 := fun W => ristime_any d.down W
          have C3 := fun W => ristime_any d.pos W
          have C4 := fun W => ristime_any d.col W
          have C5 := fun W => ristime_any d.beam W
          have C6 := fun W => ristime_any d.del W
          rw [hq1] at C1
          rw [hq2] at C2
          rw [hq3] at C3
          rw [hq4] at C4
          rw [hq5] at C5
          rw [hq6] at C6
          have HT := Lib.hid (show timOk d = (q1 && (q2 && (q3 && (q4 && (q5 && q6))))) from by rw [timOk, hq1, hq2, hq3, hq4, hq5, hq6])
          have K1 := Lib.hid C1
          have K2 := Lib.hid C2
          have K3 := Lib.hid C3
          have K4 := Lib.hid C4
          have K5 := Lib.hid C5
          have K6 := Lib.hid C6
          clear hd hc' hq1 hq2 hq3 hq4 hq5 hq6 C1 C2 C3 C4 C5 C6
          have hk0 : (0 : Int) ≤ (k : Int) := by omega
          have fin : Hid (∀ W, Below wr.heap.size wr W → timOk d = true → (∃ k', k' ≤ l.length ∧ Value.int .i64 ((k : Int) + 1) = .int .i64 (k' : Int) ∧ Hid ((l.take k').all timOk = true) ∧ Below w.heap.size w W)) := Lib.hid (fun W hb e => ⟨k + 1, by omega, by go_num, Lib.hid (allTo_succ HD.out hf.out e), hb0.trans (hb.mono hb0.size)⟩)
          have stop : Hid (∀ W, Below wr.heap.size wr W → timOk d = false → (Ending.returned (.int .i64 2) = .returned (.int .i64 (ptsE l)) ∧ Below w.heap.size w W)) := Lib.hid (fun W hb e => ⟨ret_int (by rw [HL.out, allTo_bad HD.out e]; rfl), hb0.trans (hb.mono hb0.size)⟩)
          cases q1 with
          | false =>
            go_wp2_with fail
            refine (K1.out _).mono ?_
            rintro e w1 ⟨rfl, rfl⟩
            go_wp2
            go_ret
            exact stop.out _ (by (repeat' (first | (with_reducible exact Below.refl _ _) | (with_reducible assumption) | (with_reducible refine below_run ?_ (by assumption)) | (with_reducible refine below_of_upd ?_ (by assumption) ?_) | (with_reducible refine below_drewN ?_ _) | (with_reducible refine Below.drew ?_) | (with_reducible refine below_seven ?_ ?_) | (with_reducible refine below_six ?_ ?_) | (with_reducible refine below_one ?_ ?_) | (with_reducible refine Below.alloc ?_ ?_ _) | (with_reducible refine below_after ?_ ?_ (by assumption)) | (show _ ≤ _; first | omega | (simp; done) | (simp; omega))))) (by rw [HT.out]; rfl)
          | true =>
            cases q2 with
            | false =>
              go_wp2_with fail
              refine (K1.out _).mono ?_
              rintro e w1 ⟨rfl, rfl⟩
              go_wp2_with fail
              refine (K2.out _).mono ?_
              rintro e w2 ⟨rfl, rfl⟩
              go_wp2
              go_ret
              exact stop.out _ (by (repeat' (first | (with_reducible exact Below.refl _ _) | (with_reducible assumption) | (with_reducible refine below_run ?_ (by assumption)) | (with_reducible refine below_of_upd ?_ (by assumption) ?_) | (with_reducible refine below_drewN ?_ _) | (with_reducible refine Below.drew ?_) | (with_reducible refine below_seven ?_ ?_) | (with_reducible refine below_six ?_ ?_) | (with_reducible refine below_one ?_ ?_) | (with_reducible refine Below.alloc ?_ ?_ _) | (with_reducible refine below_after ?_ ?_ (by assumption)) | (show _ ≤ _; first | omega | (simp; done) | (simp; omega))))) (by rw [HT.out]; rfl)
            | true =>
              cases q3 with
              | false =>
                go_wp2_with fail
                refine (K1.out _).mono ?_
                rintro e w1 ⟨rfl, rfl⟩
                go_wp2_with fail
                refine (K2.out _).mono ?_
                rintro e w2 ⟨rfl, rfl⟩
                go_wp2_with fail
                refine (K3.out _).mono ?_
                rintro e w3 ⟨rfl, rfl⟩
                go_wp2
                go_ret
                exact stop.out _ (by (repeat' (first | (with_reducible exact Below.refl _ _) | (with_reducible assumption) | (with_reducible refine below_run ?_ (by assumption)) | (with_reducible refine below_of_upd ?_ (by assumption) ?_) | (with_reducible refine below_drewN ?_ _) | (with_reducible refine Below.drew ?_) | (with_reducible refine below_seven ?_ ?_) | (with_reducible refine below_six ?_ ?_) | (with_reducible refine below_one ?_ ?_) | (with_reducible refine Below.alloc ?_ ?_ _) | (with_reducible refine below_after ?_ ?_ (by assumption)) | (show _ ≤ _; first | omega | (simp; done) | (simp; omega))))) (by rw [HT.out]; rfl)
              | true =>
                cases q4 with
                | false =>
                  go_wp2_with fail
                  refine (K1.out _).mono ?_
                  rintro e w1 ⟨rfl, rfl⟩
                  go_wp2_with fail
                  refine (K2.out _).mono ?_
                  rintro e w2 ⟨rfl, rfl⟩
                  go_wp2_with fail
                  refine (K3.out _).mono ?_
                  rintro e w3 ⟨rfl, rfl⟩
                  go_wp2_with fail
                  refine (K4.out _).mono ?_
                  rintro e w4 ⟨rfl, rfl⟩
                  go_wp2
                  go_ret
                  exact stop.out _ (by (repeat' (first | (with_reducible exact Below.refl _ _) | (with_reducible assumption) | (with_reducible refine below_run ?_ (by assumption)) | (with_reducible refine below_of_upd ?_ (by assumption) ?_) | (with_reducible refine below_drewN ?_ _) | (with_reducible refine Below.drew ?_) | (with_reducible refine below_seven ?_ ?_) | (with_reducible refine below_six ?_ ?_) | (with_reducible refine below_one ?_ ?_) | (with_reducible refine Below.alloc ?_ ?_ _) | (with_reducible refine below_after ?_ ?_ (by assumption)) | (show _ ≤ _; first | omega | (simp; done) | (simp; omega))))) (by rw [HT.out]; rfl)
                | true =>
                  cases q5 with
                  | false =>
                    go_wp2_with fail
                    refine (K1.out _).mono ?_
                    rintro e w1 ⟨rfl, rfl⟩
                    go_wp2_with fail
                    refine (K2.out _).mono ?_
                    rintro e w2 ⟨rfl, rfl⟩
                    go_wp2_with fail
                    refine (K3.out _).mono ?_
                    rintro e w3 ⟨rfl, rfl⟩
                    go_wp2_with fail
                    refine (K4.out _).mono ?_
                    rintro e w4 ⟨rfl, rfl⟩
                    go_wp2_with fail
                    refine (K5.out _).mono ?_
                    rintro e w5 ⟨rfl, rfl⟩
                    go_wp2
                    go_ret
                    exact stop.out _ (by (repeat' (first | (with_reducible exact Below.refl _ _) | (with_reducible assumption) | (with_reducible refine below_run ?_ (by assumption)) | (with_reducible refine below_of_upd ?_ (by assumption) ?_) | (with_reducible refine below_drewN ?_ _) | (with_reducible refine Below.drew ?_) | (with_reducible refine below_seven ?_ ?_) | (with_reducible refine below_six ?_ ?_) | (with_reducible refine below_one ?_ ?_) | (with_reducible refine Below.alloc ?_ ?_ _) | (with_reducible refine below_after ?_ ?_ (by assumption)) | (show _ ≤ _; first | omega | (simp; done) | (simp; omega))))) (by rw [HT.out]; rfl)
                  | true =>
                    cases q6 with
                    | false =>
                      go_wp2_with fail
                      refine (K1.out _).mono ?_
                      rintro e w1 ⟨rfl, rfl⟩
                      go_wp2_with fail
                      refine (K2.out _).mono ?_
                      rintro e w2 ⟨rfl, rfl⟩
                      go_wp2_with fail
                      refine (K3.out _).mono ?_
                      rintro e w3 ⟨rfl, rfl⟩
                      go_wp2_with fail
                      refine (K4.out _).mono ?_
                      rintro e w4 ⟨rfl, rfl⟩
                      go_wp2_with fail
                      refine (K5.out _).mono ?_
                      rintro e w5 ⟨rfl, rfl⟩
                      go_wp2_with fail
                      refine (K6.out _).mono ?_
                      rintro e w6 ⟨rfl, rfl⟩
                      go_wp2
                      go_ret
                      exact stop.out _ (by (repeat' (first | (with_reducible exact Below.refl _ _) | (with_reducible assumption) | (with_reducible refine below_run ?_ (by assumption)) | (with_reducible refine below_of_upd ?_ (by assumption) ?_) | (with_reducible refine below_drewN ?_ _) | (with_reducible refine Below.drew ?_) | (with_reducible refine below_seven ?_ ?_) | (with_reducible refine below_six ?_ ?_) | (with_reducible refine below_one ?_ ?_) | (with_reducible refine Below.alloc ?_ ?_ _) | (with_reducible refine below_after ?_ ?_ (by assumption)) | (show _ ≤ _; first | omega | (simp; done) | (simp; omega))))) (by rw [HT.out]; rfl)
                    | true =>
                      go_wp2_with fail
                      refine (K1.out _).mono ?_
                      rintro e w1 ⟨rfl, rfl⟩
                      go_wp2_with fail
                      refine (K2.out _).mono ?_
                      rintro e w2 ⟨rfl, rfl⟩
                      go_wp2_with fail
                      refine (K3.out _).mono ?_
                      rintro e w3 ⟨rfl, rfl⟩
                      go_wp2_with fail
                      refine (K4.out _).mono ?_
                      rintro e w4 ⟨rfl, rfl⟩
                      go_wp2_with fail
                      refine (K5.out _).mono ?_
                      rintro e w5 ⟨rfl, rfl⟩
                      go_wp2_with fail
                      refine (K6.out _).mono ?_
                      rintro e w6 ⟨rfl, rfl⟩
                      go_wp2
                      go_roundw
                      case rel => exact fin.out _ (by (repeat' (first | (with_reducible exact Below.refl _ _) | (with_reducible assumption) | (with_reducible refine below_run ?_ (by assumption)) | (with_reducible refine below_of_upd ?_ (by assumption) ?_) | (with_reducible refine below_drewN ?_ _) | (with_reducible refine Below.drew ?_) | (with_reducible refine below_seven ?_ ?_) | (with_reducible refine below_six ?_ ?_) | (with_reducible refine below_one ?_ ?_) | (with_reducible refine Below.alloc ?_ ?_ _) | (with_reducible refine below_after ?_ ?_ (by assumption)) | (show _ ≤ _; first | omega | (simp; done) | (simp; omega))))) (by rw [HT.out]; rfl)
                      case measure => simp [intOf]; omega
        · obtain rfl : k = l.length := by omega
          go_wp2
          go_ret
          have := hf.out
          rw [List.take_length] at this
          exact ⟨ret_int (by rw [HL.out, this]; rfl), hb0⟩
    · have h3 : (4 : Int) < (l.length : Int) := by omega
      go_enter Tryz.func169, Tryz.ntmps169
      go_wp2
      go_ret
      exact ⟨ret_int (by rw [ptsE, if_neg (by omega), if_pos (by omega)]), by (repeat' (first | (with_reducible exact Below.refl _ _) | (with_reducible assumption) | (with_reducible refine below_run ?_ (by assumption)) | (with_reducible refine below_of_upd ?_ (by assumption) ?_) | (with_reducible refine below_drewN ?_ _) | (with_reducible refine Below.drew ?_) | (with_reducible refine below_seven ?_ ?_) | (with_reducible refine below_six ?_ ?_) | (with_reducible refine below_one ?_ ?_) | (with_reducible refine Below.alloc ?_ ?_ _) | (with_reducible refine below_after ?_ ?_ (by assumption)) | (show _ ≤ _; first | omega | (simp; done) | (simp; omega))))⟩
end Go.Proofs.YtjeigphhepngmaaGreatDoor
