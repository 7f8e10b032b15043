/-
  Right moves of the reference; labels of both sides.
  Labels of both sides.
-/
import Derived.Test.YtjeigphhepngmaaGreatDoorYk
import Derived.Laws.IdiomStrings
namespace Go.Proofs.YtjeigphhepngmaaGreatDoor
open Go.RowKit

theorem mvE_1 {p : Option Mv} {m : Mv} (h : ¬ parE m.ch m.at_ = 0) : mvE p m = 2 := by unfold mvE; rw [if_pos h]
theorem mvE_2 {p : Option Mv} {m : Mv} (h1 : parE m.ch m.at_ = 0) (h : ¬ valE m.pal m.lev = 0) : mvE p m = 2 := by unfold mvE; rw [if_neg (by simp [h1]), if_pos h]
theorem mvE_3 {p : Option Mv} {m : Mv} (h1 : parE m.ch m.at_ = 0) (h2 : valE m.pal m.lev = 0) (h : m.part < 1 ∨ 4 < m.part) : mvE p m = 2 := by unfold mvE; rw [if_neg (by simp [h1]), if_neg (by simp [h2]), if_pos h]
theorem mvE_4 {m : Mv} (h1 : parE m.ch m.at_ = 0) (h2 : valE m.pal m.lev = 0) (h : ¬ (m.part < 1 ∨ 4 < m.part)) : mvE none m = 0 := by unfold mvE; rw [if_neg (by simp [h1]), if_neg (by simp [h2]), if_neg h]
theorem mvE_5 {q m : Mv} (h1 : parE m.ch m.at_ = 0) (h2 : valE m.pal m.lev = 0) (h : ¬ (m.part < 1 ∨ 4 < m.part)) : mvE (some q) m = if befP q.ch q.at_ m.ch m.at_ then 0 else 9 := by unfold mvE; rw [if_neg (by simp [h1]), if_neg (by simp [h2]), if_neg h]
set_option maxHeartbeats 1000000 in
set_option maxRecDepth 100000 in
theorem rmoves_any (v : Value) (l : List Mv) (w : World) (hv : ListAt 5 mvA w v l) :
    Calls Tryz.prog 168 #[v] w fun e w' => e = .returned (.int .i64 (movesE l)) ∧ Below w.heap.size w w' := by
  rcases hv with ⟨h0, a, cap, rfl⟩ | ⟨h0, h1, b, off, cap, rfl, hlt, hc⟩
  · have hl : l = [] := List.eq_nil_of_length_eq_zero h0
    subst hl
    go_enter Tryz.func168, Tryz.ntmps168
    go_wp2
    refine wp_loop_rounds 1 ?_
    rw [rounds_succ]
    go_wp2
    go_ret
    exact ⟨rfl, by (repeat' (first | (with_reducible exact Below.refl _ _) | (with_reducible assumption) | (with_reducible refine below_run ?_ (by assumption)) | (with_reducible refine below_of_upd ?_ (by assumption) ?_) | (with_reducible refine below_drewN ?_ _) | (with_reducible refine Below.drew ?_) | (with_reducible refine below_seven ?_ ?_) | (with_reducible refine below_six ?_ ?_) | (with_reducible refine below_one ?_ ?_) | (with_reducible refine Below.alloc ?_ ?_ _) | (with_reducible refine below_after ?_ ?_ (by assumption)) | (show _ ≤ _; first | omega | (simp; done) | (simp; omega))))⟩
  · by_cases h2 : l.length ≤ 128
    · have h3 : (l.length : Int) ≤ 128 := by omega
      have h4 : (0 : Int) < (l.length : Int) := by omega
      have hME : movesE l = firstE (mvAtE l) 0 (l.length - 0) := by rw [movesE, if_neg (by omega)]; rfl
      have HM := Lib.hid hME
      clear hME
      go_enter Tryz.func168, Tryz.ntmps168
      go_wp2
      go_loopw [3] (fun i wr => ∃ k : Nat, k ≤ l.length ∧ i = .int .i64 k ∧ Hid (movesE l = firstE (mvAtE l) k (l.length - k) ∧ ∀ j, j < k → mvAtE l j = 0) ∧ Below w.heap.size w wr) (fun i _ => l.length - (intOf i).toNat)
      case atStart => exact ⟨0, Nat.zero_le _, rfl, Lib.hid ⟨HM.out, fun j h => by omega⟩, Below.refl _ _⟩
      case round =>
        obtain ⟨k, hk, rfl, hf, hb0⟩ := hrel
        by_cases hlt2 : k < l.length
        · have hlt3 : (k : Int) < (l.length : Int) := by omega
          have hk0 : (0 : Int) ≤ (k : Int) := by omega
          have hc' : ∀ j, j < l.length * 5 → wr.cell? ⟨b, off + j, none⟩ = genC 5 mvA l j := fun j hj => (hb0.cell (p := ⟨b, off + j, none⟩) hlt).trans (hc j hj)
          have hbs := hb0.size
          have hbr : b < wr.heap.size := by omega
          obtain ⟨d, hd⟩ : ∃ d, l[k]? = some d := ⟨_, List.getElem?_eq_getElem hlt2⟩
          have HE := Lib.hid (fun (W : World) (hb : Below wr.heap.size wr W) => mv_cells (fun j hj => (hb.cell (p := ⟨b, off + j, none⟩) hbr).trans (hc' j hj)) k d hd)
          obtain ⟨e0, e1, e2, e3, e4⟩ := HE.out wr (Below.refl _ _)
          obtain ⟨r, hr⟩ : ∃ r, mvAtE l k = r := ⟨_, rfl⟩
          have hrr : mvE (prevOf l k) d = r := by rw [← hr, mvAtE, hd]
          have HR := Lib.hid (And.intro hr hrr)
          have fin : Hid (∀ W, Below wr.heap.size wr W → r = 0 → (∃ k', k' ≤ l.length ∧ Value.int .i64 ((k : Int) + 1) = .int .i64 (k' : Int) ∧ Hid (movesE l = firstE (mvAtE l) k' (l.length - k') ∧ ∀ j, j < k' → mvAtE l j = 0) ∧ Below w.heap.size w W)) := Lib.hid (fun W hb e => ⟨k + 1, by omega, by go_num, Lib.hid ⟨hf.out.1.trans (firstE_go hlt2 (by rw [HR.out.1]; exact e)), fun j hj => by
              by_cases e9 : j = k
              · subst e9; rw [HR.out.1]; exact e
              · exact hf.out.2 j (by omega)⟩, hb0.trans (hb.mono hbs)⟩)
          have stop : Hid (∀ W x, Below wr.heap.size wr W → r ≠ 0 → r = x → (Ending.returned (.int .i64 x) = .returned (.int .i64 (movesE l)) ∧ Below w.heap.size w W)) := Lib.hid (fun W x hb e hx => ⟨ret_int (by rw [hf.out.1, firstE_stop hlt2 (by rw [HR.out.1]; exact e), HR.out.1, hx]), hb0.trans (hb.mono hbs)⟩)
          have C1 := fun W => rparam_any d.ch d.at_ W
          have C2 := fun W => rvalue_any d.pal d.lev W
          by_cases p1 : parE d.ch d.at_ = 0
          · rw [p1] at C1
            by_cases p2 : valE d.pal d.lev = 0
            · rw [p2] at C2
              have H1 := Lib.hid C1
              have H2 := Lib.hid C2
              by_cases p3 : d.part < 1 ∨ 4 < d.part
              · have hrv : r = 2 := by rw [← hrr]; exact mvE_3 p1 p2 p3
                clear hrr hr hc' hc hd C1 C2 HM
                go_wp2_with fail
                refine (H1.out _).mono ?_
                rintro e w1 ⟨rfl, hb1⟩
                obtain ⟨f0, f1, f2, f3, f4⟩ := HE.out w1 hb1
                clear e0 e1 e2 e3 e4
                go_wp2_with fail
                refine (H2.out _).mono ?_
                rintro e w2 ⟨rfl, hb2⟩
                obtain ⟨e0, e1, e2, e3, e4⟩ := HE.out w2 (by (repeat' (first | (with_reducible exact Below.refl _ _) | (with_reducible assumption) | (with_reducible refine below_run ?_ (by assumption)) | (with_reducible refine below_of_upd ?_ (by assumption) ?_) | (with_reducible refine below_drewN ?_ _) | (with_reducible refine Below.drew ?_) | (with_reducible refine below_seven ?_ ?_) | (with_reducible refine below_six ?_ ?_) | (with_reducible refine below_one ?_ ?_) | (with_reducible refine Below.alloc ?_ ?_ _) | (with_reducible refine below_after ?_ ?_ (by assumption)) | (show _ ≤ _; first | omega | (simp; done) | (simp; omega)))))
                clear f0 f1 f2 f3 f4
                go_wp2
                all_goals go_ret
                all_goals exact stop.out _ _ (by (repeat' (first | (with_reducible exact Below.refl _ _) | (with_reducible assumption) | (with_reducible refine below_run ?_ (by assumption)) | (with_reducible refine below_of_upd ?_ (by assumption) ?_) | (with_reducible refine below_drewN ?_ _) | (with_reducible refine Below.drew ?_) | (with_reducible refine below_seven ?_ ?_) | (with_reducible refine below_six ?_ ?_) | (with_reducible refine below_one ?_ ?_) | (with_reducible refine Below.alloc ?_ ?_ _) | (with_reducible refine below_after ?_ ?_ (by assumption)) | (show _ ≤ _; first | omega | (simp; done) | (simp; omega))))) (by omega) (by omega)
              · have p4 : ¬ d.part < 1 := by omega
                have p5 : ¬ 4 < d.part := by omega
                by_cases hkz : k = 0
                · have hrv : r = 0 := by rw [← hrr, hkz]; exact mvE_4 p1 p2 p3
                  have hkz2 : ¬ (0 : Int) < (k : Int) := by omega
                  have hkz3 : decide (0 < k) = false := by simp; omega
                  have hkz4 : decide ((0 : Int) < (k : Int)) = false := by simp; omega
                  have hkz5 : ¬ 0 < k := by omega
                  clear hrr hr hc' hc hd C1 C2 HM p3 hkz
                  go_wp2_with fail
                  refine (H1.out _).mono ?_
                  rintro e w1 ⟨rfl, hb1⟩
                  obtain ⟨f0, f1, f2, f3, f4⟩ := HE.out w1 hb1
                  clear e0 e1 e2 e3 e4
                  go_wp2_with fail
                  refine (H2.out _).mono ?_
                  rintro e w2 ⟨rfl, hb2⟩
                  obtain ⟨e0, e1, e2, e3, e4⟩ := HE.out w2 (by (repeat' (first | (with_reducible exact Below.refl _ _) | (with_reducible assumption) | (with_reducible refine below_run ?_ (by assumption)) | (with_reducible refine below_of_upd ?_ (by assumption) ?_) | (with_reducible refine below_drewN ?_ _) | (with_reducible refine Below.drew ?_) | (with_reducible refine below_seven ?_ ?_) | (with_reducible refine below_six ?_ ?_) | (with_reducible refine below_one ?_ ?_) | (with_reducible refine Below.alloc ?_ ?_ _) | (with_reducible refine below_after ?_ ?_ (by assumption)) | (show _ ≤ _; first | omega | (simp; done) | (simp; omega)))))
                  clear f0 f1 f2 f3 f4
                  go_wp2
                  go_quiet (fail)
                  go_wp2
                  go_roundw
                  case rel => exact fin.out _ (by (repeat' (first | (with_reducible exact Below.refl _ _) | (with_reducible assumption) | (with_reducible refine below_run ?_ (by assumption)) | (with_reducible refine below_of_upd ?_ (by assumption) ?_) | (with_reducible refine below_drewN ?_ _) | (with_reducible refine Below.drew ?_) | (with_reducible refine below_seven ?_ ?_) | (with_reducible refine below_six ?_ ?_) | (with_reducible refine below_one ?_ ?_) | (with_reducible refine Below.alloc ?_ ?_ _) | (with_reducible refine below_after ?_ ?_ (by assumption)) | (show _ ≤ _; first | omega | (simp; done) | (simp; omega))))) hrv
                  case measure => simp [intOf]; omega
                · obtain ⟨j, hj⟩ : ∃ j, k = j + 1 := ⟨k - 1, by omega⟩
                  obtain ⟨q, hq⟩ : ∃ q, l[j]? = some q := ⟨_, List.getElem?_eq_getElem (by omega)⟩
                  have HP := Lib.hid (fun (W : World) (hb : Below wr.heap.size wr W) => mv_cells (fun j hj => (hb.cell (p := ⟨b, off + j, none⟩) hbr).trans (hc' j hj)) j q hq)
                  have hbv : (if befP q.ch q.at_ d.ch d.at_ then (0 : Int) else 9) = r := by rw [← mvE_5 p1 p2 p3, ← hrr, hj, prevOf_succ, hq]
                  have HV := Lib.hid hbv
                  have hkz2 : (0 : Int) < (k : Int) := by omega
                  have hkz5 : 0 < k := by omega
                  have hk1 : (k : Int) - 1 = (j : Int) := by omega
                  have hk2 : IntKind.i64.wrap ((k : Int) - 1) = (j : Int) := by rw [hk1]; exact IntWalk.i64_in _ (by omega)
                  have hk3 : IntKind.i64.wrap (j : Int) = (j : Int) := IntWalk.i64_in _ (by omega)
                  have hk4 : (0 : Int) ≤ (j : Int) ∧ (j : Int) < (l.length : Int) := by omega
                  have hk5 : (0 : Int) ≤ (j : Int) := by omega
                  have hk6 : (j : Int) < (l.length : Int) := by omega
                  have H3 := Lib.hid (fun W => rbefore_any q.ch q.at_ d.ch d.at_ W)
                  obtain ⟨bv, hbv9⟩ : ∃ x, befP q.ch q.at_ d.ch d.at_ = x := ⟨_, rfl⟩
                  rw [hbv9] at H3 HV
                  clear hrr hr hc' hc hd C1 C2 HM p3 hkz hj hq hbv hbv9
                  go_wp2_with fail
                  refine (H1.out _).mono ?_
                  rintro e w1 ⟨rfl, hb1⟩
                  obtain ⟨f0, f1, f2, f3, f4⟩ := HE.out w1 hb1
                  clear e0 e1 e2 e3 e4
                  go_wp2_with fail
                  refine (H2.out _).mono ?_
                  rintro e w2 ⟨rfl, hb2⟩
                  have hq2 : Below wr.heap.size wr w2 := by (repeat' (first | (with_reducible exact Below.refl _ _) | (with_reducible assumption) | (with_reducible refine below_run ?_ (by assumption)) | (with_reducible refine below_of_upd ?_ (by assumption) ?_) | (with_reducible refine below_drewN ?_ _) | (with_reducible refine Below.drew ?_) | (with_reducible refine below_seven ?_ ?_) | (with_reducible refine below_six ?_ ?_) | (with_reducible refine below_one ?_ ?_) | (with_reducible refine Below.alloc ?_ ?_ _) | (with_reducible refine below_after ?_ ?_ (by assumption)) | (show _ ≤ _; first | omega | (simp; done) | (simp; omega))))
                  obtain ⟨e0, e1, e2, e3, e4⟩ := HE.out w2 hq2
                  obtain ⟨g0, g1, -⟩ := HP.out w2 hq2
                  have HK := Lib.hid (fun (W : World) (hb5 : Below w2.heap.size w2 W) => (And.intro (HE.out W (below_after hq2 hq2.size hb5)).1 (And.intro (HE.out W (below_after hq2 hq2.size hb5)).2.1 (And.intro (HP.out W (below_after hq2 hq2.size hb5)).1 (HP.out W (below_after hq2 hq2.size hb5)).2.1))))
                  have HQ2 := Lib.hid hq2
                  clear f0 f1 f2 f3 f4 hb1 hb2 hq2
                  go_wp2
                  go_region_held3 (fun w' => w'.cell? ⟨b, off + k * 5, none⟩ = some (.int .i64 d.ch) ∧ w'.cell? ⟨b, off + k * 5 + 1, none⟩ = some (.int .i64 d.at_) ∧ w'.cell? ⟨b, off + j * 5, none⟩ = some (.int .i64 q.ch) ∧ w'.cell? ⟨b, off + j * 5 + 1, none⟩ = some (.int .i64 q.at_)) (first | exact HK.out _ (by (repeat' (first | (with_reducible exact Below.refl _ _) | (with_reducible assumption) | (with_reducible refine below_run ?_ (by assumption)) | (with_reducible refine below_of_upd ?_ (by assumption) ?_) | (with_reducible refine below_drewN ?_ _) | (with_reducible refine Below.drew ?_) | (with_reducible refine below_seven ?_ ?_) | (with_reducible refine below_six ?_ ?_) | (with_reducible refine below_one ?_ ?_) | (with_reducible refine Below.alloc ?_ ?_ _) | (with_reducible refine below_after ?_ ?_ (by assumption)) | (show _ ≤ _; first | omega | (simp; done) | (simp; omega))))) | go_keep) ((go_at_call 259; refine (H3.out _).mono ?_; rintro e w4 ⟨rfl, hb4⟩))
                  all_goals
                    have hq4 : Below wr.heap.size wr w4 := below_after HQ2.out HQ2.out.size (by (repeat' (first | (with_reducible exact Below.refl _ _) | (with_reducible assumption) | (with_reducible refine below_run ?_ (by assumption)) | (with_reducible refine below_of_upd ?_ (by assumption) ?_) | (with_reducible refine below_drewN ?_ _) | (with_reducible refine Below.drew ?_) | (with_reducible refine below_seven ?_ ?_) | (with_reducible refine below_six ?_ ?_) | (with_reducible refine below_one ?_ ?_) | (with_reducible refine Below.alloc ?_ ?_ _) | (with_reducible refine below_after ?_ ?_ (by assumption)) | (show _ ≤ _; first | omega | (simp; done) | (simp; omega)))))
                    clear hb4
                    cases bv with
                    | true =>
                      go_wp2
                      go_roundw
                      case rel => exact fin.out _ hq4 HV.out.symm
                      case measure => simp [intOf]; omega
                    | false =>
                      go_wp2
                      go_ret
                      exact stop.out _ _ hq4 (by rw [← HV.out]; decide) HV.out.symm
            · have pv : valE d.pal d.lev = 2 := by grind [valE]
              have hrv : r = 2 := by rw [← hrr]; exact mvE_2 p1 p2
              rw [pv] at C2
              have H1 := Lib.hid C1
              have H2 := Lib.hid C2
              clear hrr hr hc' hc hd C1 C2 HM p2 pv
              go_wp2_with fail
              refine (H1.out _).mono ?_
              rintro e w1 ⟨rfl, hb1⟩
              obtain ⟨f0, f1, f2, f3, f4⟩ := HE.out w1 hb1
              clear e0 e1 e2 e3 e4
              go_wp2_with fail
              refine (H2.out _).mono ?_
              rintro e w2 ⟨rfl, hb2⟩
              go_wp2
              all_goals go_ret
              all_goals exact stop.out _ _ (by (repeat' (first | (with_reducible exact Below.refl _ _) | (with_reducible assumption) | (with_reducible refine below_run ?_ (by assumption)) | (with_reducible refine below_of_upd ?_ (by assumption) ?_) | (with_reducible refine below_drewN ?_ _) | (with_reducible refine Below.drew ?_) | (with_reducible refine below_seven ?_ ?_) | (with_reducible refine below_six ?_ ?_) | (with_reducible refine below_one ?_ ?_) | (with_reducible refine Below.alloc ?_ ?_ _) | (with_reducible refine below_after ?_ ?_ (by assumption)) | (show _ ≤ _; first | omega | (simp; done) | (simp; omega))))) (by omega) (by omega)
          · have pv : parE d.ch d.at_ = 2 := by grind [parE]
            have hrv : r = 2 := by rw [← hrr]; exact mvE_1 p1
            rw [pv] at C1
            have H1 := Lib.hid C1
            clear hrr hr hc' hc hd C1 C2 HM p1 pv
            go_wp2_with fail
            refine (H1.out _).mono ?_
            rintro e w1 ⟨rfl, hb1⟩
            go_wp2
            all_goals go_ret
            all_goals exact stop.out _ _ (by (repeat' (first | (with_reducible exact Below.refl _ _) | (with_reducible assumption) | (with_reducible refine below_run ?_ (by assumption)) | (with_reducible refine below_of_upd ?_ (by assumption) ?_) | (with_reducible refine below_drewN ?_ _) | (with_reducible refine Below.drew ?_) | (with_reducible refine below_seven ?_ ?_) | (with_reducible refine below_six ?_ ?_) | (with_reducible refine below_one ?_ ?_) | (with_reducible refine Below.alloc ?_ ?_ _) | (with_reducible refine below_after ?_ ?_ (by assumption)) | (show _ ≤ _; first | omega | (simp; done) | (simp; omega))))) (by omega) (by omega)
        · obtain rfl : k = l.length := by omega
          go_wp2
          go_ret
          exact ⟨ret_int (by rw [hf.out.1, firstE_end]), hb0⟩
    · have h3 : 128 < (l.length : Int) := by omega
      go_enter Tryz.func168, Tryz.ntmps168
      go_wp2
      go_ret
      exact ⟨ret_int (by rw [movesE, if_pos (by omega)]), by (repeat' (first | (with_reducible exact Below.refl _ _) | (with_reducible assumption) | (with_reducible refine below_run ?_ (by assumption)) | (with_reducible refine below_of_upd ?_ (by assumption) ?_) | (with_reducible refine below_drewN ?_ _) | (with_reducible refine Below.drew ?_) | (with_reducible refine below_seven ?_ ?_) | (with_reducible refine below_six ?_ ?_) | (with_reducible refine below_one ?_ ?_) | (with_reducible refine Below.alloc ?_ ?_ _) | (with_reducible refine below_after ?_ ?_ (by assumption)) | (show _ ≤ _; first | omega | (simp; done) | (simp; omega))))⟩
end Go.Proofs.YtjeigphhepngmaaGreatDoor

namespace Go.Proofs.YtjeigphhepngmaaGreatDoor
open Go.RowKit

/-- The bytes of a text, in a row of their own. -/
theorem conv_bytes (s : ByteArray) (w : World) : ∃ W1 cap, (convert 9 59 (.string s)).run Tryz.prog w = .ok (.slice (some ⟨w.heap.size, 0, none⟩) s.size cap) W1 ∧
    (∀ i, i < s.size → W1.cell? ⟨w.heap.size, i, none⟩ = some (.int .u8 ((s.data.toList.getD i 0).toNat : Int)) ∧ W1.frozen? ⟨w.heap.size, i, none⟩ = false) ∧ Below w.heap.size w W1 ∧ w.heap.size < W1.heap.size := by
  refine ⟨_, _, run_bytes_of_string w 9 59 5 s Tryz.underlying9 Tryz.underlying59 Tryz.underlying5, fun i hi => ?_, ((Below.refl w.heap.size w).drew).alloc (Nat.le_refl _) _, by simp⟩
  have hg : (w.drew.alloc (.cells (bytesRow s (grownCap w s.size 0 5)) 5 ((bytesRow s (grownCap w s.size 0 5)).size, (bytesRow s (grownCap w s.size 0 5)).size + 1))).heap[w.heap.size]? = some (.cells (bytesRow s (grownCap w s.size 0 5)) 5 ((bytesRow s (grownCap w s.size 0 5)).size, (bytesRow s (grownCap w s.size 0 5)).size + 1)) := heap_alloc_new w.drew _
  have hsz : s.size ≤ (bytesRow s (grownCap w s.size 0 5)).size := by
    unfold bytesRow
    simp
  have hd : i < s.data.size := hi
  refine ⟨?_, ?_⟩
  · rw [cell_of_row _ w.heap.size i _ _ _ hg]
    unfold bytesRow
    rw [Array.getElem?_append_left (by simpa using hd)]
    simp [List.getD_eq_getElem?_getD, Array.getElem?_eq_getElem hd]
  · unfold World.frozen?
    rw [hg]
    simp
    omega

theorem byte_at (s : ByteArray) (k : Nat) (h : k < s.size) : s.data.toList.getD k 0 = s[k] := by
  rw [List.getD_eq_getElem?_getD, List.getElem?_eq_getElem (by simpa using h)]
  rfl
theorem okTo_succ {s : ByteArray} {k : Nat} (h : k < s.size) (hf : (s.data.toList.take k).all okCh = true) (hb : okCh s[k] = true) : (s.data.toList.take (k + 1)).all okCh = true := by
  rw [take_snoc s k h, List.all_append, hf]
  simpa using hb
theorem okTo_bad {s : ByteArray} {k : Nat} (h : k < s.size) (hb : okCh s[k] = false) : s.data.toList.all okCh = false := by
  rw [List.all_eq_false]
  exact ⟨s[k], List.getElem_mem (l := s.data.toList) (by simpa using h), by simp [hb]⟩
theorem okTo_all {s : ByteArray} (hf : (s.data.toList.take s.size).all okCh = true) : s.data.toList.all okCh = true := by
  rwa [List.take_of_length_le (by simp)] at hf

set_option maxHeartbeats 1000000 in
set_option maxRecDepth 100000 in
theorem clabel_any (s : ByteArray) (w : World) (hs : s.size ≤ 9223372036854775807) :
    Calls Tryz.prog 155 #[.string s] w fun e w' => e = .returned (.int .i64 (labE s)) ∧ Below w.heap.size w w' := by
  by_cases h : 24 < s.size
  · have h2 : (24 : Int) < (s.size : Int) := by omega
    rw [labE, if_pos h]
    go_enter Tryz.func155, Tryz.ntmps155
    go_wp2
    go_ret
    exact ⟨rfl, by (repeat' (first | (with_reducible exact Below.refl _ _) | (with_reducible assumption) | (with_reducible refine below_run ?_ (by assumption)) | (with_reducible refine below_of_upd ?_ (by assumption) ?_) | (with_reducible refine below_drewN ?_ _) | (with_reducible refine Below.drew ?_) | (with_reducible refine below_seven ?_ ?_) | (with_reducible refine below_six ?_ ?_) | (with_reducible refine below_one ?_ ?_) | (with_reducible refine Below.alloc ?_ ?_ _) | (with_reducible refine below_after ?_ ?_ (by assumption)) | (show _ ≤ _; first | omega | (simp; done) | (simp; omega))))⟩
  · have h2 : ¬ (24 : Int) < (s.size : Int) := by omega
    have h3 : (s.size : Int) ≤ 24 := by omega
    obtain ⟨W1, cap, hc1, hcel, hb, hlt⟩ := conv_bytes s w
    have HL := Lib.hid (show labE s = if s.data.toList.all okCh then 0 else 3 from by rw [labE, if_neg h])
    have HC := Lib.hid hcel
    have HB := Lib.hid hb
    clear hcel hb
    go_enter Tryz.func155, Tryz.ntmps155
    go_wp2
    go_loopw [4, 11] (fun _ i wr => ∃ k : Nat, k ≤ s.size ∧ i = .int .i64 k ∧ Hid ((s.data.toList.take k).all okCh = true) ∧ wr = W1) (fun _ i _ => s.size - (intOf i).toNat)
    case atStart => exact ⟨0, Nat.zero_le _, rfl, by simp [Hid], rfl⟩
    case round =>
      obtain ⟨k, hk, rfl, hf, rfl⟩ := hrel
      by_cases hlt2 : k < s.size
      · have hlt3 : (k : Int) < (s.size : Int) := by omega
        obtain ⟨c0, -⟩ := HC.out k hlt2
        rw [byte_at s k hlt2] at c0
        obtain ⟨x, hx⟩ : ∃ x, s[k] = x := ⟨_, rfl⟩
        rw [hx] at c0
        have HX := Lib.hid hx
        clear hx hc1
        obtain ⟨y, hy⟩ : ∃ y : Int, (x.toNat : Int) = y := ⟨_, rfl⟩
        rw [hy] at c0
        have HY := Lib.hid hy
        clear hy
        by_cases hq : okCh x = true
        · have q1 : ¬ y < 32 := by have := HY.out; simp [okCh] at hq; omega
          have q2 : ¬ 126 < y := by have := HY.out; simp [okCh] at hq; omega
          have q3 : (y == 34) = false := by have := HY.out; simp [okCh] at hq; simp; omega
          have HQ := Lib.hid hq
          clear hq
          go_wp2
          go_roundw
          case rel => exact ⟨k + 1, by omega, by go_num, okTo_succ hlt2 hf.out (by rw [HX.out]; exact HQ.out), (by first | rfl | trivial)⟩
          case measure => simp [intOf]; omega
        · have hq2 : okCh x = false := by simpa using hq
          have q1 : y < 32 ∨ 126 < y ∨ y = 34 := by have := HY.out; simp [okCh] at hq2; omega
          have HQ := Lib.hid hq2
          clear hq hq2
          by_cases r1 : y < 32
          · go_wp2
            go_ret
            exact ⟨ret_int (by rw [HL.out, okTo_bad hlt2 (by rw [HX.out]; exact HQ.out)]; rfl), HB.out⟩
          · by_cases r2 : 126 < y
            · go_wp2
              go_ret
              exact ⟨ret_int (by rw [HL.out, okTo_bad hlt2 (by rw [HX.out]; exact HQ.out)]; rfl), HB.out⟩
            · obtain rfl : y = 34 := by omega
              go_wp2
              go_ret
              exact ⟨ret_int (by rw [HL.out, okTo_bad hlt2 (by rw [HX.out]; exact HQ.out)]; rfl), HB.out⟩
      · obtain rfl : k = s.size := by omega
        go_wp2
        go_ret
        exact ⟨ret_int (by rw [HL.out, okTo_all hf.out]; rfl), HB.out⟩

set_option maxHeartbeats 1000000 in
set_option maxRecDepth 100000 in
theorem rlabel_any (s : ByteArray) (w : World) (hs : s.size ≤ 9223372036854775807) :
    Calls Tryz.prog 167 #[.string s] w fun e w' => e = .returned (.int .i64 (labE s)) ∧ w = w' := by
  by_cases h : 24 < s.size
  · have h2 : (24 : Int) < (s.size : Int) := by omega
    rw [labE, if_pos h]
    go_enter Tryz.func167, Tryz.ntmps167
    go_wp2
    go_ret
    exact ⟨rfl, rfl⟩
  · have h2 : ¬ (24 : Int) < (s.size : Int) := by omega
    have h3 : (s.size : Int) ≤ 24 := by omega
    have HL := Lib.hid (show labE s = if s.data.toList.all okCh then 0 else 3 from by rw [labE, if_neg h])
    go_enter Tryz.func167, Tryz.ntmps167
    go_wp2
    go_loop [3] (fun i => ∃ k : Nat, k ≤ s.size ∧ i = .int .i64 k ∧ Hid ((s.data.toList.take k).all okCh = true)) (fun i => s.size - (intOf i).toNat)
    case atStart => exact ⟨0, Nat.zero_le _, rfl, by simp [Hid]⟩
    case round =>
      obtain ⟨k, hk, rfl, hf⟩ := hrel
      by_cases hlt2 : k < s.size
      · have hlt3 : (k : Int) < (s.size : Int) := by omega
        go_wp2
        all_goals first
          | (go_ret
             have hbad := okTo_bad hlt2 (by grind [okCh])
             exact ⟨ret_int (by rw [HL.out, hbad]; rfl), rfl⟩)
          | (go_round
             case rel => exact ⟨k + 1, by omega, by go_num, okTo_succ hlt2 hf.out (by grind [okCh])⟩
             case measure => simp [intOf]; omega)
      · obtain rfl : k = s.size := by omega
        go_wp2
        go_ret
        exact ⟨ret_int (by rw [HL.out, okTo_all hf.out]; rfl), rfl⟩
end Go.Proofs.YtjeigphhepngmaaGreatDoor
