/-
  Right cues of the reference; Cue of both sides.
-/
import Derived.Test.YtjeigphhepngmaaGreatDoorYu
import Derived.Test.YtjeigphhepngmaaGreatDoorYt
namespace Go.Proofs.YtjeigphhepngmaaGreatDoor
open Go.RowKit


theorem cueE_ref (c : CueD) : cueE c = if chk5 c.num.data.toList ≠ 0 then chk5 c.num.data.toList else if labE c.lab ≠ 0 then labE c.lab else if movesE c.moves ≠ 0 then movesE c.moves else if ptsE c.parts ≠ 0 then ptsE c.parts else if c.moves.any (beyondM c.parts.length) then 6 else nextE c := rfl

set_option maxHeartbeats 8000000 in
set_option maxRecDepth 100000 in
theorem rcheck_any (c : CueD) (v1 v2 : Value) (w : World) (h : CueAt w v1 v2 c) (hn : c.num.size ≤ 9223372036854775806) (hl : c.lab.size ≤ 9223372036854775807) (hk : c.link.size ≤ 9223372036854775806) :
    Calls Tryz.prog 72 #[.agg #[.string c.num, .string c.lab, v1, v2, .bool c.block, .bool c.mark, .int .i64 c.follow, .string c.link, .int .i64 c.loops]] w fun e w' => e = .returned (.int .i64 (cueE c)) ∧ Below w.heap.size w w' := by
  have hsh1 : ∃ a cap, v1 = .slice a c.moves.length cap ∧ c.moves.length ≤ 140737488351232 := by
    rcases h.moves with ⟨h0, a, cap, rfl⟩ | ⟨_, h1, g, off, cap, rfl, _⟩
    · exact ⟨a, cap, by rw [h0], by omega⟩
    · exact ⟨_, _, rfl, h1⟩
  have hsh2 : ∃ a cap, v2 = .slice a c.parts.length cap ∧ c.parts.length ≤ 140737488351232 := by
    rcases h.parts with ⟨h0, a, cap, rfl⟩ | ⟨_, h1, g, off, cap, rfl, _⟩
    · exact ⟨a, cap, by rw [h0], by omega⟩
    · exact ⟨_, _, rfl, h1⟩
  obtain ⟨a1, cap1, rfl, hml⟩ := hsh1
  obtain ⟨a2, cap2, rfl, hpl⟩ := hsh2
  have HA := Lib.hid h
  have hE := cueE_ref c
  have F0 := fun (W : World) (_ : Below w.heap.size w W) => rcheck5_any c.num W hn
  obtain ⟨q0, hq0⟩ : ∃ q, chk5 c.num.data.toList = q := ⟨_, rfl⟩
  rw [hq0] at F0 hE
  have F1 := fun (W : World) (_ : Below w.heap.size w W) => rlabel_any c.lab W hl
  obtain ⟨q1, hq1⟩ : ∃ q, labE c.lab = q := ⟨_, rfl⟩
  rw [hq1] at F1 hE
  have F2 := fun (W : World) (hb : Below w.heap.size w W) => rmoves_any (.slice a1 c.moves.length cap1) c.moves W (h.moves.run hb)
  obtain ⟨q2, hq2⟩ : ∃ q, movesE c.moves = q := ⟨_, rfl⟩
  rw [hq2] at F2 hE
  have F3 := fun (W : World) (hb : Below w.heap.size w W) => rparts_any (.slice a2 c.parts.length cap2) c.parts W (h.parts.run hb)
  obtain ⟨q3, hq3⟩ : ∃ q, ptsE c.parts = q := ⟨_, rfl⟩
  rw [hq3] at F3 hE
  have F4 := fun (W : World) (_ : Below w.heap.size w W) => rnext_any c (.slice a1 c.moves.length cap1) (.slice a2 c.parts.length cap2) W hk
  obtain ⟨q4, hq4⟩ : ∃ q, nextE c = q := ⟨_, rfl⟩
  rw [hq4] at F4 hE
  have HE := Lib.hid hE
  have K0 := Lib.hid F0
  have K1 := Lib.hid F1
  have K2 := Lib.hid F2
  have K3 := Lib.hid F3
  have K4 := Lib.hid F4
  clear h hE hn hl hk F0 hq0 F1 hq1 F2 hq2 F3 hq3 F4 hq4
  by_cases p0 : q0 = 0
  · by_cases p1 : q1 = 0
    · by_cases p2 : q2 = 0
      · by_cases p3 : q3 = 0
        · subst p0 p1 p2 p3
          go_enter Tryz.func72, Tryz.ntmps72
          go_wp2_with fail
          refine (K0.out _ (by (repeat' (first | (with_reducible exact Below.refl _ _) | (with_reducible assumption) | (with_reducible refine below_run ?_ (by assumption)) | (with_reducible refine below_of_upd ?_ (by assumption) ?_) | (with_reducible refine below_drewN ?_ _) | (with_reducible refine Below.drew ?_) | (with_reducible refine below_seven ?_ ?_) | (with_reducible refine below_six ?_ ?_) | (with_reducible refine below_one ?_ ?_) | (with_reducible refine Below.alloc ?_ ?_ _) | (with_reducible refine below_after ?_ ?_ (by assumption)) | (show _ ≤ _; first | omega | (simp; done) | (simp; omega)))))).mono ?_
          rintro e w1 ⟨rfl, hb1⟩
          have hr0 : RowAt w1 w.heap.size 64 #[.string c.num, .string c.lab, .slice a1 c.moves.length cap1, .slice a2 c.parts.length cap2, .bool c.block, .bool c.mark, .int .i64 c.follow, .string c.link, .int .i64 c.loops] := (by (repeat' (first | (with_reducible assumption) | (with_reducible refine RowAt.drewN ?_ _) | (with_reducible refine RowAt.drew ?_) | (with_reducible apply RowAt.six) | (with_reducible apply RowAt.seven) | ((with_reducible refine RowAt.mk ?_ ?_); (focus (first | rfl | (simp; done))); rfl) | (with_reducible refine RowAt.alloc ?_ _) | (with_reducible refine RowAt.far ?_ ?_) | (with_reducible refine RowAt.run ?_ (by assumption)) | (with_reducible refine RowAt.below ?_ (by assumption) ?_) | (with_reducible refine RowAt.upd ?_ (by assumption) ?_) | (show _ < _; first | omega | (simp; done) | (simp; omega)) | (show ¬ _ = _; first | omega | (simp; done) | (simp; omega)) | exact rfl))); obtain ⟨hr0a, hr0b, hr0c, hr0d, hr0e, hr0f⟩ := row_facts hr0
          go_wp2_with fail
          refine (K1.out _ (by (repeat' (first | (with_reducible exact Below.refl _ _) | (with_reducible assumption) | (with_reducible refine below_run ?_ (by assumption)) | (with_reducible refine below_of_upd ?_ (by assumption) ?_) | (with_reducible refine below_drewN ?_ _) | (with_reducible refine Below.drew ?_) | (with_reducible refine below_seven ?_ ?_) | (with_reducible refine below_six ?_ ?_) | (with_reducible refine below_one ?_ ?_) | (with_reducible refine Below.alloc ?_ ?_ _) | (with_reducible refine below_after ?_ ?_ (by assumption)) | (show _ ≤ _; first | omega | (simp; done) | (simp; omega)))))).mono ?_
          rintro e w2 ⟨rfl, rfl⟩
          go_wp2_with fail
          refine (K2.out _ (by (repeat' (first | (with_reducible exact Below.refl _ _) | (with_reducible assumption) | (with_reducible refine below_run ?_ (by assumption)) | (with_reducible refine below_of_upd ?_ (by assumption) ?_) | (with_reducible refine below_drewN ?_ _) | (with_reducible refine Below.drew ?_) | (with_reducible refine below_seven ?_ ?_) | (with_reducible refine below_six ?_ ?_) | (with_reducible refine below_one ?_ ?_) | (with_reducible refine Below.alloc ?_ ?_ _) | (with_reducible refine below_after ?_ ?_ (by assumption)) | (show _ ≤ _; first | omega | (simp; done) | (simp; omega)))))).mono ?_
          rintro e w3 ⟨rfl, hb3⟩
          have hr2 : RowAt w3 w.heap.size 64 #[.string c.num, .string c.lab, .slice a1 c.moves.length cap1, .slice a2 c.parts.length cap2, .bool c.block, .bool c.mark, .int .i64 c.follow, .string c.link, .int .i64 c.loops] := (by (repeat' (first | (with_reducible assumption) | (with_reducible refine RowAt.drewN ?_ _) | (with_reducible refine RowAt.drew ?_) | (with_reducible apply RowAt.six) | (with_reducible apply RowAt.seven) | ((with_reducible refine RowAt.mk ?_ ?_); (focus (first | rfl | (simp; done))); rfl) | (with_reducible refine RowAt.alloc ?_ _) | (with_reducible refine RowAt.far ?_ ?_) | (with_reducible refine RowAt.run ?_ (by assumption)) | (with_reducible refine RowAt.below ?_ (by assumption) ?_) | (with_reducible refine RowAt.upd ?_ (by assumption) ?_) | (show _ < _; first | omega | (simp; done) | (simp; omega)) | (show ¬ _ = _; first | omega | (simp; done) | (simp; omega)) | exact rfl))); obtain ⟨hr2a, hr2b, hr2c, hr2d, hr2e, hr2f⟩ := row_facts hr2
          go_wp2_with fail
          refine (K3.out _ (by (repeat' (first | (with_reducible exact Below.refl _ _) | (with_reducible assumption) | (with_reducible refine below_run ?_ (by assumption)) | (with_reducible refine below_of_upd ?_ (by assumption) ?_) | (with_reducible refine below_drewN ?_ _) | (with_reducible refine Below.drew ?_) | (with_reducible refine below_seven ?_ ?_) | (with_reducible refine below_six ?_ ?_) | (with_reducible refine below_one ?_ ?_) | (with_reducible refine Below.alloc ?_ ?_ _) | (with_reducible refine below_after ?_ ?_ (by assumption)) | (show _ ≤ _; first | omega | (simp; done) | (simp; omega)))))).mono ?_
          rintro e w4 ⟨rfl, hb4⟩
          have hr3 : RowAt w4 w.heap.size 64 #[.string c.num, .string c.lab, .slice a1 c.moves.length cap1, .slice a2 c.parts.length cap2, .bool c.block, .bool c.mark, .int .i64 c.follow, .string c.link, .int .i64 c.loops] := (by (repeat' (first | (with_reducible assumption) | (with_reducible refine RowAt.drewN ?_ _) | (with_reducible refine RowAt.drew ?_) | (with_reducible apply RowAt.six) | (with_reducible apply RowAt.seven) | ((with_reducible refine RowAt.mk ?_ ?_); (focus (first | rfl | (simp; done))); rfl) | (with_reducible refine RowAt.alloc ?_ _) | (with_reducible refine RowAt.far ?_ ?_) | (with_reducible refine RowAt.run ?_ (by assumption)) | (with_reducible refine RowAt.below ?_ (by assumption) ?_) | (with_reducible refine RowAt.upd ?_ (by assumption) ?_) | (show _ < _; first | omega | (simp; done) | (simp; omega)) | (show ¬ _ = _; first | omega | (simp; done) | (simp; omega)) | exact rfl))); obtain ⟨hr3a, hr3b, hr3c, hr3d, hr3e, hr3f⟩ := row_facts hr3
          have HB4 := Lib.hid (And.intro hr3 (show Below w.heap.size w w4 from by (repeat' (first | (with_reducible exact Below.refl _ _) | (with_reducible assumption) | (with_reducible refine below_run ?_ (by assumption)) | (with_reducible refine below_of_upd ?_ (by assumption) ?_) | (with_reducible refine below_drewN ?_ _) | (with_reducible refine Below.drew ?_) | (with_reducible refine below_seven ?_ ?_) | (with_reducible refine below_six ?_ ?_) | (with_reducible refine below_one ?_ ?_) | (with_reducible refine Below.alloc ?_ ?_ _) | (with_reducible refine below_after ?_ ?_ (by assumption)) | (show _ ≤ _; first | omega | (simp; done) | (simp; omega))))))
          clear hb1 hb3 hb4 hr0 hr0a hr0b hr0c hr0d hr0e hr0f hr2 hr2a hr2b hr2c hr2d hr2e hr2f hr3 hr3a hr3b hr3c hr3d hr3e hr3f
          go_wp2
          go_loopw [7] (fun i wr => ∃ k : Nat, k ≤ c.moves.length ∧ i = .int .i64 k ∧ Hid ((c.moves.take k).any (beyondM c.parts.length) = false) ∧ Hid (RowAt wr w.heap.size 64 #[.string c.num, .string c.lab, .slice a1 c.moves.length cap1, .slice a2 c.parts.length cap2, .bool c.block, .bool c.mark, .int .i64 c.follow, .string c.link, .int .i64 c.loops] ∧ Below w.heap.size w wr)) (fun i _ => c.moves.length - (intOf i).toNat)
          case atStart => exact ⟨0, Nat.zero_le _, rfl, by simp [Hid], HB4⟩
          case round =>
            obtain ⟨k, hk, rfl, hf, hh⟩ := hrel
            obtain ⟨hr, hb0⟩ := hh.out
            obtain ⟨a0, a1', a2', a3, a4, a5⟩ := row_facts hr
            by_cases hlt : k < c.moves.length
            · have hlt3 : (k : Int) < (c.moves.length : Int) := by omega
              have hk0 : (0 : Int) ≤ (k : Int) := by omega
              rcases HA.out.moves with ⟨h0, _⟩ | ⟨_, _, b, off, cap', he, hbl, hcr⟩
              · omega
              cases he
              have hc' : ∀ j, j < c.moves.length * 5 → wr.cell? ⟨b, off + j, none⟩ = genC 5 mvA c.moves j := fun j hj => (hb0.cell (p := ⟨b, off + j, none⟩) hbl).trans (hcr j hj)
              obtain ⟨d, hd⟩ : ∃ d, c.moves[k]? = some d := ⟨_, List.getElem?_eq_getElem hlt⟩
              obtain ⟨e0, e1, e2, e3, e4⟩ := mv_cells hc' k d hd
              have HD := Lib.hid hd
              have HH := Lib.hid (And.intro hr hb0)
              clear hc' hcr hd hh hr hb0
              by_cases hz : (c.parts.length : Int) < d.part
              · have HZ := Lib.hid (show beyondM c.parts.length d = true from by simpa [beyondM] using hz)
                go_wp2
                go_quiet (fail)
                go_wp2
                go_ret
                have hany : c.moves.any (beyondM c.parts.length) = true := List.any_eq_true.2 ⟨d, List.mem_of_getElem? HD.out, HZ.out⟩
                exact ⟨ret_int (by rw [HE.out, hany]; rfl), by have := HH.out.2; (repeat' (first | (with_reducible exact Below.refl _ _) | (with_reducible assumption) | (with_reducible refine below_run ?_ (by assumption)) | (with_reducible refine below_of_upd ?_ (by assumption) ?_) | (with_reducible refine below_drewN ?_ _) | (with_reducible refine Below.drew ?_) | (with_reducible refine below_seven ?_ ?_) | (with_reducible refine below_six ?_ ?_) | (with_reducible refine below_one ?_ ?_) | (with_reducible refine Below.alloc ?_ ?_ _) | (with_reducible refine below_after ?_ ?_ (by assumption)) | (show _ ≤ _; first | omega | (simp; done) | (simp; omega))))⟩
              · have HZ := Lib.hid (show beyondM c.parts.length d = false from by simpa [beyondM] using hz)
                go_wp2
                go_quiet (fail)
                go_wp2
                go_roundw
                case rel => exact ⟨k + 1, by omega, by go_num, Lib.hid (by rw [take_succ_some HD.out, List.any_append, hf.out]; simp [HZ.out]), Lib.hid ⟨HH.out.1.drewN _, by have := HH.out.2; (repeat' (first | (with_reducible exact Below.refl _ _) | (with_reducible assumption) | (with_reducible refine below_run ?_ (by assumption)) | (with_reducible refine below_of_upd ?_ (by assumption) ?_) | (with_reducible refine below_drewN ?_ _) | (with_reducible refine Below.drew ?_) | (with_reducible refine below_seven ?_ ?_) | (with_reducible refine below_six ?_ ?_) | (with_reducible refine below_one ?_ ?_) | (with_reducible refine Below.alloc ?_ ?_ _) | (with_reducible refine below_after ?_ ?_ (by assumption)) | (show _ ≤ _; first | omega | (simp; done) | (simp; omega))))⟩⟩
                case measure => simp [intOf]; omega
            · obtain rfl : k = c.moves.length := by omega
              have hany := hf.out
              rw [List.take_length] at hany
              have HE2 := Lib.hid (show cueE c = q4 from by rw [HE.out, hany]; rfl)
              have HH := Lib.hid hb0
              clear hany hr hb0 hh
              go_wp2_with fail
              refine (K4.out _ HH.out).mono ?_
              rintro e w5 ⟨rfl, hb5⟩
              go_wp2
              go_ret
              exact ⟨ret_int HE2.out.symm, HH.out.trans (hb5.mono HH.out.size)⟩
        · have p9 : (q3 != 0) = true := by simpa using p3
          subst p0
          subst p1
          subst p2
          go_enter Tryz.func72, Tryz.ntmps72
          go_wp2_with fail
          refine (K0.out _ (by (repeat' (first | (with_reducible exact Below.refl _ _) | (with_reducible assumption) | (with_reducible refine below_run ?_ (by assumption)) | (with_reducible refine below_of_upd ?_ (by assumption) ?_) | (with_reducible refine below_drewN ?_ _) | (with_reducible refine Below.drew ?_) | (with_reducible refine below_seven ?_ ?_) | (with_reducible refine below_six ?_ ?_) | (with_reducible refine below_one ?_ ?_) | (with_reducible refine Below.alloc ?_ ?_ _) | (with_reducible refine below_after ?_ ?_ (by assumption)) | (show _ ≤ _; first | omega | (simp; done) | (simp; omega)))))).mono ?_
          rintro e w1 ⟨rfl, hb1⟩
          have hr0 : RowAt w1 w.heap.size 64 #[.string c.num, .string c.lab, .slice a1 c.moves.length cap1, .slice a2 c.parts.length cap2, .bool c.block, .bool c.mark, .int .i64 c.follow, .string c.link, .int .i64 c.loops] := (by (repeat' (first | (with_reducible assumption) | (with_reducible refine RowAt.drewN ?_ _) | (with_reducible refine RowAt.drew ?_) | (with_reducible apply RowAt.six) | (with_reducible apply RowAt.seven) | ((with_reducible refine RowAt.mk ?_ ?_); (focus (first | rfl | (simp; done))); rfl) | (with_reducible refine RowAt.alloc ?_ _) | (with_reducible refine RowAt.far ?_ ?_) | (with_reducible refine RowAt.run ?_ (by assumption)) | (with_reducible refine RowAt.below ?_ (by assumption) ?_) | (with_reducible refine RowAt.upd ?_ (by assumption) ?_) | (show _ < _; first | omega | (simp; done) | (simp; omega)) | (show ¬ _ = _; first | omega | (simp; done) | (simp; omega)) | exact rfl))); obtain ⟨hr0a, hr0b, hr0c, hr0d, hr0e, hr0f⟩ := row_facts hr0
          go_wp2_with fail
          refine (K1.out _ (by (repeat' (first | (with_reducible exact Below.refl _ _) | (with_reducible assumption) | (with_reducible refine below_run ?_ (by assumption)) | (with_reducible refine below_of_upd ?_ (by assumption) ?_) | (with_reducible refine below_drewN ?_ _) | (with_reducible refine Below.drew ?_) | (with_reducible refine below_seven ?_ ?_) | (with_reducible refine below_six ?_ ?_) | (with_reducible refine below_one ?_ ?_) | (with_reducible refine Below.alloc ?_ ?_ _) | (with_reducible refine below_after ?_ ?_ (by assumption)) | (show _ ≤ _; first | omega | (simp; done) | (simp; omega)))))).mono ?_
          rintro e w2 ⟨rfl, rfl⟩
          go_wp2_with fail
          refine (K2.out _ (by (repeat' (first | (with_reducible exact Below.refl _ _) | (with_reducible assumption) | (with_reducible refine below_run ?_ (by assumption)) | (with_reducible refine below_of_upd ?_ (by assumption) ?_) | (with_reducible refine below_drewN ?_ _) | (with_reducible refine Below.drew ?_) | (with_reducible refine below_seven ?_ ?_) | (with_reducible refine below_six ?_ ?_) | (with_reducible refine below_one ?_ ?_) | (with_reducible refine Below.alloc ?_ ?_ _) | (with_reducible refine below_after ?_ ?_ (by assumption)) | (show _ ≤ _; first | omega | (simp; done) | (simp; omega)))))).mono ?_
          rintro e w3 ⟨rfl, hb3⟩
          have hr2 : RowAt w3 w.heap.size 64 #[.string c.num, .string c.lab, .slice a1 c.moves.length cap1, .slice a2 c.parts.length cap2, .bool c.block, .bool c.mark, .int .i64 c.follow, .string c.link, .int .i64 c.loops] := (by (repeat' (first | (with_reducible assumption) | (with_reducible refine RowAt.drewN ?_ _) | (with_reducible refine RowAt.drew ?_) | (with_reducible apply RowAt.six) | (with_reducible apply RowAt.seven) | ((with_reducible refine RowAt.mk ?_ ?_); (focus (first | rfl | (simp; done))); rfl) | (with_reducible refine RowAt.alloc ?_ _) | (with_reducible refine RowAt.far ?_ ?_) | (with_reducible refine RowAt.run ?_ (by assumption)) | (with_reducible refine RowAt.below ?_ (by assumption) ?_) | (with_reducible refine RowAt.upd ?_ (by assumption) ?_) | (show _ < _; first | omega | (simp; done) | (simp; omega)) | (show ¬ _ = _; first | omega | (simp; done) | (simp; omega)) | exact rfl))); obtain ⟨hr2a, hr2b, hr2c, hr2d, hr2e, hr2f⟩ := row_facts hr2
          go_wp2_with fail
          refine (K3.out _ (by (repeat' (first | (with_reducible exact Below.refl _ _) | (with_reducible assumption) | (with_reducible refine below_run ?_ (by assumption)) | (with_reducible refine below_of_upd ?_ (by assumption) ?_) | (with_reducible refine below_drewN ?_ _) | (with_reducible refine Below.drew ?_) | (with_reducible refine below_seven ?_ ?_) | (with_reducible refine below_six ?_ ?_) | (with_reducible refine below_one ?_ ?_) | (with_reducible refine Below.alloc ?_ ?_ _) | (with_reducible refine below_after ?_ ?_ (by assumption)) | (show _ ≤ _; first | omega | (simp; done) | (simp; omega)))))).mono ?_
          rintro e w4 ⟨rfl, hb4⟩
          have hr3 : RowAt w4 w.heap.size 64 #[.string c.num, .string c.lab, .slice a1 c.moves.length cap1, .slice a2 c.parts.length cap2, .bool c.block, .bool c.mark, .int .i64 c.follow, .string c.link, .int .i64 c.loops] := (by (repeat' (first | (with_reducible assumption) | (with_reducible refine RowAt.drewN ?_ _) | (with_reducible refine RowAt.drew ?_) | (with_reducible apply RowAt.six) | (with_reducible apply RowAt.seven) | ((with_reducible refine RowAt.mk ?_ ?_); (focus (first | rfl | (simp; done))); rfl) | (with_reducible refine RowAt.alloc ?_ _) | (with_reducible refine RowAt.far ?_ ?_) | (with_reducible refine RowAt.run ?_ (by assumption)) | (with_reducible refine RowAt.below ?_ (by assumption) ?_) | (with_reducible refine RowAt.upd ?_ (by assumption) ?_) | (show _ < _; first | omega | (simp; done) | (simp; omega)) | (show ¬ _ = _; first | omega | (simp; done) | (simp; omega)) | exact rfl))); obtain ⟨hr3a, hr3b, hr3c, hr3d, hr3e, hr3f⟩ := row_facts hr3
          go_wp2
          go_ret
          exact ⟨ret_int (by rw [HE.out]; simp [p3]), by (repeat' (first | (with_reducible exact Below.refl _ _) | (with_reducible assumption) | (with_reducible refine below_run ?_ (by assumption)) | (with_reducible refine below_of_upd ?_ (by assumption) ?_) | (with_reducible refine below_drewN ?_ _) | (with_reducible refine Below.drew ?_) | (with_reducible refine below_seven ?_ ?_) | (with_reducible refine below_six ?_ ?_) | (with_reducible refine below_one ?_ ?_) | (with_reducible refine Below.alloc ?_ ?_ _) | (with_reducible refine below_after ?_ ?_ (by assumption)) | (show _ ≤ _; first | omega | (simp; done) | (simp; omega))))⟩
      · have p9 : (q2 != 0) = true := by simpa using p2
        subst p0
        subst p1
        go_enter Tryz.func72, Tryz.ntmps72
        go_wp2_with fail
        refine (K0.out _ (by (repeat' (first | (with_reducible exact Below.refl _ _) | (with_reducible assumption) | (with_reducible refine below_run ?_ (by assumption)) | (with_reducible refine below_of_upd ?_ (by assumption) ?_) | (with_reducible refine below_drewN ?_ _) | (with_reducible refine Below.drew ?_) | (with_reducible refine below_seven ?_ ?_) | (with_reducible refine below_six ?_ ?_) | (with_reducible refine below_one ?_ ?_) | (with_reducible refine Below.alloc ?_ ?_ _) | (with_reducible refine below_after ?_ ?_ (by assumption)) | (show _ ≤ _; first | omega | (simp; done) | (simp; omega)))))).mono ?_
        rintro e w1 ⟨rfl, hb1⟩
        have hr0 : RowAt w1 w.heap.size 64 #[.string c.num, .string c.lab, .slice a1 c.moves.length cap1, .slice a2 c.parts.length cap2, .bool c.block, .bool c.mark, .int .i64 c.follow, .string c.link, .int .i64 c.loops] := (by (repeat' (first | (with_reducible assumption) | (with_reducible refine RowAt.drewN ?_ _) | (with_reducible refine RowAt.drew ?_) | (with_reducible apply RowAt.six) | (with_reducible apply RowAt.seven) | ((with_reducible refine RowAt.mk ?_ ?_); (focus (first | rfl | (simp; done))); rfl) | (with_reducible refine RowAt.alloc ?_ _) | (with_reducible refine RowAt.far ?_ ?_) | (with_reducible refine RowAt.run ?_ (by assumption)) | (with_reducible refine RowAt.below ?_ (by assumption) ?_) | (with_reducible refine RowAt.upd ?_ (by assumption) ?_) | (show _ < _; first | omega | (simp; done) | (simp; omega)) | (show ¬ _ = _; first | omega | (simp; done) | (simp; omega)) | exact rfl))); obtain ⟨hr0a, hr0b, hr0c, hr0d, hr0e, hr0f⟩ := row_facts hr0
        go_wp2_with fail
        refine (K1.out _ (by (repeat' (first | (with_reducible exact Below.refl _ _) | (with_reducible assumption) | (with_reducible refine below_run ?_ (by assumption)) | (with_reducible refine below_of_upd ?_ (by assumption) ?_) | (with_reducible refine below_drewN ?_ _) | (with_reducible refine Below.drew ?_) | (with_reducible refine below_seven ?_ ?_) | (with_reducible refine below_six ?_ ?_) | (with_reducible refine below_one ?_ ?_) | (with_reducible refine Below.alloc ?_ ?_ _) | (with_reducible refine below_after ?_ ?_ (by assumption)) | (show _ ≤ _; first | omega | (simp; done) | (simp; omega)))))).mono ?_
        rintro e w2 ⟨rfl, rfl⟩
        go_wp2_with fail
        refine (K2.out _ (by (repeat' (first | (with_reducible exact Below.refl _ _) | (with_reducible assumption) | (with_reducible refine below_run ?_ (by assumption)) | (with_reducible refine below_of_upd ?_ (by assumption) ?_) | (with_reducible refine below_drewN ?_ _) | (with_reducible refine Below.drew ?_) | (with_reducible refine below_seven ?_ ?_) | (with_reducible refine below_six ?_ ?_) | (with_reducible refine below_one ?_ ?_) | (with_reducible refine Below.alloc ?_ ?_ _) | (with_reducible refine below_after ?_ ?_ (by assumption)) | (show _ ≤ _; first | omega | (simp; done) | (simp; omega)))))).mono ?_
        rintro e w3 ⟨rfl, hb3⟩
        have hr2 : RowAt w3 w.heap.size 64 #[.string c.num, .string c.lab, .slice a1 c.moves.length cap1, .slice a2 c.parts.length cap2, .bool c.block, .bool c.mark, .int .i64 c.follow, .string c.link, .int .i64 c.loops] := (by (repeat' (first | (with_reducible assumption) | (with_reducible refine RowAt.drewN ?_ _) | (with_reducible refine RowAt.drew ?_) | (with_reducible apply RowAt.six) | (with_reducible apply RowAt.seven) | ((with_reducible refine RowAt.mk ?_ ?_); (focus (first | rfl | (simp; done))); rfl) | (with_reducible refine RowAt.alloc ?_ _) | (with_reducible refine RowAt.far ?_ ?_) | (with_reducible refine RowAt.run ?_ (by assumption)) | (with_reducible refine RowAt.below ?_ (by assumption) ?_) | (with_reducible refine RowAt.upd ?_ (by assumption) ?_) | (show _ < _; first | omega | (simp; done) | (simp; omega)) | (show ¬ _ = _; first | omega | (simp; done) | (simp; omega)) | exact rfl))); obtain ⟨hr2a, hr2b, hr2c, hr2d, hr2e, hr2f⟩ := row_facts hr2
        go_wp2
        go_ret
        exact ⟨ret_int (by rw [HE.out]; simp [p2]), by (repeat' (first | (with_reducible exact Below.refl _ _) | (with_reducible assumption) | (with_reducible refine below_run ?_ (by assumption)) | (with_reducible refine below_of_upd ?_ (by assumption) ?_) | (with_reducible refine below_drewN ?_ _) | (with_reducible refine Below.drew ?_) | (with_reducible refine below_seven ?_ ?_) | (with_reducible refine below_six ?_ ?_) | (with_reducible refine below_one ?_ ?_) | (with_reducible refine Below.alloc ?_ ?_ _) | (with_reducible refine below_after ?_ ?_ (by assumption)) | (show _ ≤ _; first | omega | (simp; done) | (simp; omega))))⟩
    · have p9 : (q1 != 0) = true := by simpa using p1
      subst p0
      go_enter Tryz.func72, Tryz.ntmps72
      go_wp2_with fail
      refine (K0.out _ (by (repeat' (first | (with_reducible exact Below.refl _ _) | (with_reducible assumption) | (with_reducible refine below_run ?_ (by assumption)) | (with_reducible refine below_of_upd ?_ (by assumption) ?_) | (with_reducible refine below_drewN ?_ _) | (with_reducible refine Below.drew ?_) | (with_reducible refine below_seven ?_ ?_) | (with_reducible refine below_six ?_ ?_) | (with_reducible refine below_one ?_ ?_) | (with_reducible refine Below.alloc ?_ ?_ _) | (with_reducible refine below_after ?_ ?_ (by assumption)) | (show _ ≤ _; first | omega | (simp; done) | (simp; omega)))))).mono ?_
      rintro e w1 ⟨rfl, hb1⟩
      have hr0 : RowAt w1 w.heap.size 64 #[.string c.num, .string c.lab, .slice a1 c.moves.length cap1, .slice a2 c.parts.length cap2, .bool c.block, .bool c.mark, .int .i64 c.follow, .string c.link, .int .i64 c.loops] := (by (repeat' (first | (with_reducible assumption) | (with_reducible refine RowAt.drewN ?_ _) | (with_reducible refine RowAt.drew ?_) | (with_reducible apply RowAt.six) | (with_reducible apply RowAt.seven) | ((with_reducible refine RowAt.mk ?_ ?_); (focus (first | rfl | (simp; done))); rfl) | (with_reducible refine RowAt.alloc ?_ _) | (with_reducible refine RowAt.far ?_ ?_) | (with_reducible refine RowAt.run ?_ (by assumption)) | (with_reducible refine RowAt.below ?_ (by assumption) ?_) | (with_reducible refine RowAt.upd ?_ (by assumption) ?_) | (show _ < _; first | omega | (simp; done) | (simp; omega)) | (show ¬ _ = _; first | omega | (simp; done) | (simp; omega)) | exact rfl))); obtain ⟨hr0a, hr0b, hr0c, hr0d, hr0e, hr0f⟩ := row_facts hr0
      go_wp2_with fail
      refine (K1.out _ (by (repeat' (first | (with_reducible exact Below.refl _ _) | (with_reducible assumption) | (with_reducible refine below_run ?_ (by assumption)) | (with_reducible refine below_of_upd ?_ (by assumption) ?_) | (with_reducible refine below_drewN ?_ _) | (with_reducible refine Below.drew ?_) | (with_reducible refine below_seven ?_ ?_) | (with_reducible refine below_six ?_ ?_) | (with_reducible refine below_one ?_ ?_) | (with_reducible refine Below.alloc ?_ ?_ _) | (with_reducible refine below_after ?_ ?_ (by assumption)) | (show _ ≤ _; first | omega | (simp; done) | (simp; omega)))))).mono ?_
      rintro e w2 ⟨rfl, rfl⟩
      go_wp2
      go_ret
      exact ⟨ret_int (by rw [HE.out]; simp [p1]), by (repeat' (first | (with_reducible exact Below.refl _ _) | (with_reducible assumption) | (with_reducible refine below_run ?_ (by assumption)) | (with_reducible refine below_of_upd ?_ (by assumption) ?_) | (with_reducible refine below_drewN ?_ _) | (with_reducible refine Below.drew ?_) | (with_reducible refine below_seven ?_ ?_) | (with_reducible refine below_six ?_ ?_) | (with_reducible refine below_one ?_ ?_) | (with_reducible refine Below.alloc ?_ ?_ _) | (with_reducible refine below_after ?_ ?_ (by assumption)) | (show _ ≤ _; first | omega | (simp; done) | (simp; omega))))⟩
  · have p9 : (q0 != 0) = true := by simpa using p0
    go_enter Tryz.func72, Tryz.ntmps72
    go_wp2_with fail
    refine (K0.out _ (by (repeat' (first | (with_reducible exact Below.refl _ _) | (with_reducible assumption) | (with_reducible refine below_run ?_ (by assumption)) | (with_reducible refine below_of_upd ?_ (by assumption) ?_) | (with_reducible refine below_drewN ?_ _) | (with_reducible refine Below.drew ?_) | (with_reducible refine below_seven ?_ ?_) | (with_reducible refine below_six ?_ ?_) | (with_reducible refine below_one ?_ ?_) | (with_reducible refine Below.alloc ?_ ?_ _) | (with_reducible refine below_after ?_ ?_ (by assumption)) | (show _ ≤ _; first | omega | (simp; done) | (simp; omega)))))).mono ?_
    rintro e w1 ⟨rfl, hb1⟩
    have hr0 : RowAt w1 w.heap.size 64 #[.string c.num, .string c.lab, .slice a1 c.moves.length cap1, .slice a2 c.parts.length cap2, .bool c.block, .bool c.mark, .int .i64 c.follow, .string c.link, .int .i64 c.loops] := (by (repeat' (first | (with_reducible assumption) | (with_reducible refine RowAt.drewN ?_ _) | (with_reducible refine RowAt.drew ?_) | (with_reducible apply RowAt.six) | (with_reducible apply RowAt.seven) | ((with_reducible refine RowAt.mk ?_ ?_); (focus (first | rfl | (simp; done))); rfl) | (with_reducible refine RowAt.alloc ?_ _) | (with_reducible refine RowAt.far ?_ ?_) | (with_reducible refine RowAt.run ?_ (by assumption)) | (with_reducible refine RowAt.below ?_ (by assumption) ?_) | (with_reducible refine RowAt.upd ?_ (by assumption) ?_) | (show _ < _; first | omega | (simp; done) | (simp; omega)) | (show ¬ _ = _; first | omega | (simp; done) | (simp; omega)) | exact rfl))); obtain ⟨hr0a, hr0b, hr0c, hr0d, hr0e, hr0f⟩ := row_facts hr0
    go_wp2
    go_ret
    exact ⟨ret_int (by rw [HE.out]; simp [p0]), by (repeat' (first | (with_reducible exact Below.refl _ _) | (with_reducible assumption) | (with_reducible refine below_run ?_ (by assumption)) | (with_reducible refine below_of_upd ?_ (by assumption) ?_) | (with_reducible refine below_drewN ?_ _) | (with_reducible refine Below.drew ?_) | (with_reducible refine below_seven ?_ ?_) | (with_reducible refine below_six ?_ ?_) | (with_reducible refine below_one ?_ ?_) | (with_reducible refine Below.alloc ?_ ?_ _) | (with_reducible refine below_after ?_ ?_ (by assumption)) | (show _ ≤ _; first | omega | (simp; done) | (simp; omega))))⟩
end Go.Proofs.YtjeigphhepngmaaGreatDoor
