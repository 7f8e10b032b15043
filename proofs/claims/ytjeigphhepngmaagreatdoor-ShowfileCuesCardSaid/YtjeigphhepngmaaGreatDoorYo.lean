/-
  Right parts of cues: the program.
-/
import Derived.Test.YtjeigphhepngmaaGreatDoorYn
namespace Go.Proofs.YtjeigphhepngmaaGreatDoor
open Go.RowKit

/-- A move names a part that is not there. -/
def beyondM (n : Nat) (m : Mv) : Bool := decide ((n : Int) < m.part)
set_option maxHeartbeats 1000000 in
set_option maxRecDepth 100000 in
theorem cparts1_any (q n cap : Nat) (a : Option Addr) (c : CueD) (v1 : Value) (m : Mv) (w : World) (hq : RowAt w q 64 (cueA c v1 (.slice a n cap))) :
    Calls Tryz.prog 254 #[.agg #[.int .i64 m.ch, .int .i64 m.at_, .int .i64 m.pal, .int .i64 m.lev, .int .i64 m.part], .pointer (some ⟨q, 0, none⟩)] w fun e w' => e = .returned (.bool (beyondM n m)) ∧ Below w.heap.size w w' := by
  obtain ⟨x1, x2, x3, x4, x5, x6⟩ := row_facts hq
  simp only [cueA] at x1
  clear hq
  go_enter Tryz.func254, Tryz.ntmps254
  go_wp2
  all_goals go_ret
  all_goals exact ⟨ret_bool (by grind [beyondM]), by (repeat' (first | (with_reducible exact Below.refl _ _) | (with_reducible assumption) | (with_reducible refine below_run ?_ (by assumption)) | (with_reducible refine below_of_upd ?_ (by assumption) ?_) | (with_reducible refine below_drewN ?_ _) | (with_reducible refine Below.drew ?_) | (with_reducible refine below_seven ?_ ?_) | (with_reducible refine below_six ?_ ?_) | (with_reducible refine below_one ?_ ?_) | (with_reducible refine Below.alloc ?_ ?_ _) | (with_reducible refine below_after ?_ ?_ (by assumption)) | (show _ ≤ _; first | omega | (simp; done) | (simp; omega))))⟩

set_option maxHeartbeats 1000000 in
set_option maxRecDepth 100000 in
theorem cpartsIx_any (q n cap : Nat) (a : Option Addr) (c : CueD) (v1 : Value) (v : Value) (l : List Mv) (w : World) (hq : RowAt w q 64 (cueA c v1 (.slice a n cap))) (hv : ListAt 5 mvA w v l) :
    Calls Tryz.prog 294 #[v, .func (.func 254) #[] #[.pointer (some ⟨q, 0, none⟩)]] w fun e w' => (∃ r : Int, e = .returned (.int .i64 r) ∧ Hid (decide (0 ≤ r) = l.any (beyondM n))) ∧ Below w.heap.size w w' := by
  rcases hv with ⟨h0, a2, cap2, rfl⟩ | ⟨h0, h1, b, off, cap2, rfl, hlt, hc⟩
  · have hl : l = [] := List.eq_nil_of_length_eq_zero h0
    subst hl
    clear hq
    go_enter Tryz.func294, Tryz.ntmps294
    go_wp2
    refine wp_loop_rounds 1 ?_
    rw [rounds_succ]
    go_wp2
    go_ret
    exact ⟨⟨_, rfl, Lib.hid rfl⟩, by (repeat' (first | (with_reducible exact Below.refl _ _) | (with_reducible assumption) | (with_reducible refine below_run ?_ (by assumption)) | (with_reducible refine below_of_upd ?_ (by assumption) ?_) | (with_reducible refine below_drewN ?_ _) | (with_reducible refine Below.drew ?_) | (with_reducible refine below_seven ?_ ?_) | (with_reducible refine below_six ?_ ?_) | (with_reducible refine below_one ?_ ?_) | (with_reducible refine Below.alloc ?_ ?_ _) | (with_reducible refine below_after ?_ ?_ (by assumption)) | (show _ ≤ _; first | omega | (simp; done) | (simp; omega))))⟩
  · have h3 : (l.length : Int) ≤ 140737488351232 := by omega
    have h4 : (0 : Int) < (l.length : Int) := by omega
    have HQ := Lib.hid hq
    clear hq
    go_enter Tryz.func294, Tryz.ntmps294
    go_wp2
    go_loopw [5, 8] (fun _ i wr => ∃ k : Nat, k ≤ l.length ∧ i = .int .i64 k ∧ Hid ((l.take k).any (beyondM n) = false) ∧ Below w.heap.size w wr) (fun _ i _ => l.length - (intOf i).toNat)
    case atStart => exact ⟨0, Nat.zero_le _, rfl, by simp [Hid], Below.refl _ _⟩
    case round =>
      obtain ⟨k, hk, rfl, hf, hb0⟩ := hrel
      by_cases hlt2 : k < l.length
      · have hlt3 : (k : Int) < (l.length : Int) := by omega
        have hk0 : (0 : Int) ≤ (k : Int) := by omega
        have hc' : ∀ j, j < l.length * 5 → wr.cell? ⟨b, off + j, none⟩ = genC 5 mvA l j := fun j hj => (hb0.cell (p := ⟨b, off + j, none⟩) hlt).trans (hc j hj)
        obtain ⟨d, hd⟩ : ∃ d, l[k]? = some d := ⟨_, List.getElem?_eq_getElem hlt2⟩
        obtain ⟨e0, e1, e2, e3, e4⟩ := mv_cells hc' k d hd
        have HD := Lib.hid hd
        have C1 := fun (W : World) hb => cparts1_any q n cap a c v1 d W (RowAt.run HQ.out hb)
        obtain ⟨z, hz⟩ : ∃ z, beyondM n d = z := ⟨_, rfl⟩
        rw [hz] at C1
        have H1 := Lib.hid C1
        have HZ := Lib.hid hz
        clear hc' hd C1 hz
        cases z with
        | true =>
          go_wp2_with fail
          refine (H1.out _ (by (repeat' (first | (with_reducible exact Below.refl _ _) | (with_reducible assumption) | (with_reducible refine below_run ?_ (by assumption)) | (with_reducible refine below_of_upd ?_ (by assumption) ?_) | (with_reducible refine below_drewN ?_ _) | (with_reducible refine Below.drew ?_) | (with_reducible refine below_seven ?_ ?_) | (with_reducible refine below_six ?_ ?_) | (with_reducible refine below_one ?_ ?_) | (with_reducible refine Below.alloc ?_ ?_ _) | (with_reducible refine below_after ?_ ?_ (by assumption)) | (show _ ≤ _; first | omega | (simp; done) | (simp; omega)))))).mono ?_
          rintro e w1 ⟨rfl, hb1⟩
          go_wp2
          go_ret
          refine ⟨⟨_, rfl, Lib.hid ?_⟩, by (repeat' (first | (with_reducible exact Below.refl _ _) | (with_reducible assumption) | (with_reducible refine below_run ?_ (by assumption)) | (with_reducible refine below_of_upd ?_ (by assumption) ?_) | (with_reducible refine below_drewN ?_ _) | (with_reducible refine Below.drew ?_) | (with_reducible refine below_seven ?_ ?_) | (with_reducible refine below_six ?_ ?_) | (with_reducible refine below_one ?_ ?_) | (with_reducible refine Below.alloc ?_ ?_ _) | (with_reducible refine below_after ?_ ?_ (by assumption)) | (show _ ≤ _; first | omega | (simp; done) | (simp; omega))))⟩
          have : l.any (beyondM n) = true := List.any_eq_true.2 ⟨d, List.mem_of_getElem? HD.out, HZ.out⟩
          rw [this]
          simp
        | false =>
          go_wp2_with fail
          refine (H1.out _ (by (repeat' (first | (with_reducible exact Below.refl _ _) | (with_reducible assumption) | (with_reducible refine below_run ?_ (by assumption)) | (with_reducible refine below_of_upd ?_ (by assumption) ?_) | (with_reducible refine below_drewN ?_ _) | (with_reducible refine Below.drew ?_) | (with_reducible refine below_seven ?_ ?_) | (with_reducible refine below_six ?_ ?_) | (with_reducible refine below_one ?_ ?_) | (with_reducible refine Below.alloc ?_ ?_ _) | (with_reducible refine below_after ?_ ?_ (by assumption)) | (show _ ≤ _; first | omega | (simp; done) | (simp; omega)))))).mono ?_
          rintro e w1 ⟨rfl, hb1⟩
          go_wp2
          go_roundw
          case rel => exact ⟨k + 1, by omega, by go_num, Lib.hid (by rw [take_succ_some HD.out, List.any_append, hf.out]; simp [HZ.out]), by (repeat' (first | (with_reducible exact Below.refl _ _) | (with_reducible assumption) | (with_reducible refine below_run ?_ (by assumption)) | (with_reducible refine below_of_upd ?_ (by assumption) ?_) | (with_reducible refine below_drewN ?_ _) | (with_reducible refine Below.drew ?_) | (with_reducible refine below_seven ?_ ?_) | (with_reducible refine below_six ?_ ?_) | (with_reducible refine below_one ?_ ?_) | (with_reducible refine Below.alloc ?_ ?_ _) | (with_reducible refine below_after ?_ ?_ (by assumption)) | (show _ ≤ _; first | omega | (simp; done) | (simp; omega))))⟩
          case measure => simp [intOf]; omega
      · obtain rfl : k = l.length := by omega
        go_wp2
        go_ret
        have := hf.out
        rw [List.take_length] at this
        exact ⟨⟨_, rfl, Lib.hid (by rw [this]; rfl)⟩, hb0⟩

set_option maxHeartbeats 1000000 in
set_option maxRecDepth 100000 in
theorem cpartsHas_any (q n cap : Nat) (a : Option Addr) (c : CueD) (v1 : Value) (v : Value) (l : List Mv) (w : World) (hq : RowAt w q 64 (cueA c v1 (.slice a n cap))) (hv : ListAt 5 mvA w v l) :
    Calls Tryz.prog 253 #[v, .func (.func 254) #[] #[.pointer (some ⟨q, 0, none⟩)]] w fun e w' => e = .returned (.bool (l.any (beyondM n))) ∧ Below w.heap.size w w' := by
  have C := Lib.hid (cpartsIx_any q n cap a c v1 v l w hq hv)
  obtain ⟨z, hz⟩ : ∃ z, l.any (beyondM n) = z := ⟨_, rfl⟩
  rw [hz] at C ⊢
  clear hq hv hz
  go_enter Tryz.func253, Tryz.ntmps253
  go_wp2_with fail
  refine C.out.mono ?_
  rintro e w1 ⟨⟨r, rfl, hr⟩, hb1⟩
  cases z with
  | true =>
    have hr0 : 0 ≤ r := by simpa using hr.out
    have HR := Lib.hid hr0
    clear hr0
    go_wp2
    go_ret
    exact ⟨ret_bool (by simpa using HR.out), hb1⟩
  | false =>
    have hr0 : ¬ 0 ≤ r := by simpa using hr.out
    have HR := Lib.hid hr0
    clear hr0
    go_wp2
    go_ret
    exact ⟨ret_bool (by simpa using HR.out), hb1⟩

theorem Tryz.tim_at0 (a0 a1 a2 a3 a4 a5 : Value) (w : World) : (Instr.index 328 (.agg #[a0, a1, a2, a3, a4, a5]) (.int .i64 0)).run Tryz.prog w = .ok a0 w := by kernel_rfl
theorem Tryz.tim_at1 (a0 a1 a2 a3 a4 a5 : Value) (w : World) : (Instr.index 328 (.agg #[a0, a1, a2, a3, a4, a5]) (.int .i64 1)).run Tryz.prog w = .ok a1 w := by kernel_rfl
theorem Tryz.tim_at2 (a0 a1 a2 a3 a4 a5 : Value) (w : World) : (Instr.index 328 (.agg #[a0, a1, a2, a3, a4, a5]) (.int .i64 2)).run Tryz.prog w = .ok a2 w := by kernel_rfl
theorem Tryz.tim_at3 (a0 a1 a2 a3 a4 a5 : Value) (w : World) : (Instr.index 328 (.agg #[a0, a1, a2, a3, a4, a5]) (.int .i64 3)).run Tryz.prog w = .ok a3 w := by kernel_rfl
theorem Tryz.tim_at4 (a0 a1 a2 a3 a4 a5 : Value) (w : World) : (Instr.index 328 (.agg #[a0, a1, a2, a3, a4, a5]) (.int .i64 4)).run Tryz.prog w = .ok a4 w := by kernel_rfl
theorem Tryz.tim_at5 (a0 a1 a2 a3 a4 a5 : Value) (w : World) : (Instr.index 328 (.agg #[a0, a1, a2, a3, a4, a5]) (.int .i64 5)).run Tryz.prog w = .ok a5 w := by kernel_rfl
def tmTo (d : Tim) (j : Nat) : Bool := ((timI d).take j).all timeOk
theorem tmTo_six (d : Tim) : tmTo d 6 = timOk d := by simp [tmTo, timI, timOk]
/-- The error of the parts of a cue, and of the parts of its moves. -/
def partsE (c : CueD) : Int := if ptsE c.parts ≠ 0 then ptsE c.parts else if c.moves.any (beyondM c.parts.length) then 6 else 0

set_option maxHeartbeats 4000000 in
set_option maxRecDepth 100000 in
theorem cparts_any (c : CueD) (v1 v2 : Value) (w : World) (h : CueAt w v1 v2 c) :
    Calls Tryz.prog 158 #[.agg #[.string c.num, .string c.lab, v1, v2, .bool c.block, .bool c.mark, .int .i64 c.follow, .string c.link, .int .i64 c.loops]] w fun e w' => e = .returned (.int .i64 (partsE c)) ∧ Below w.heap.size w w' := by
  obtain ⟨hm, hp⟩ := h
  rcases hp with ⟨h0, a, cap, rfl⟩ | ⟨h0, h1, b, off, cap, rfl, hlt, hc⟩
  · have hl : c.parts = [] := List.eq_nil_of_length_eq_zero h0
    have hE : partsE c = 12 := by rw [partsE, hl]; rfl
    rw [hE]
    clear hm hE hl h0
    go_enter Tryz.func158, Tryz.ntmps158
    go_wp2
    go_ret
    exact ⟨rfl, by (repeat' (first | (with_reducible exact Below.refl _ _) | (with_reducible assumption) | (with_reducible refine below_run ?_ (by assumption)) | (with_reducible refine below_of_upd ?_ (by assumption) ?_) | (with_reducible refine below_drewN ?_ _) | (with_reducible refine Below.drew ?_) | (with_reducible refine below_seven ?_ ?_) | (with_reducible refine below_six ?_ ?_) | (with_reducible refine below_one ?_ ?_) | (with_reducible refine Below.alloc ?_ ?_ _) | (with_reducible refine below_after ?_ ?_ (by assumption)) | (show _ ≤ _; first | omega | (simp; done) | (simp; omega))))⟩
  · obtain ⟨l, hl⟩ : ∃ l, c.parts = l := ⟨_, rfl⟩
    rw [hl] at h0 h1 hc ⊢
    have q0 : ((l.length : Int) == 0) = false := by rw [beq_eq_false_iff_ne]; omega
    by_cases h2 : l.length ≤ 4
    · have h3 : ¬ (4 : Int) < (l.length : Int) := by omega
      have h4 : (0 : Int) < (l.length : Int) := by omega
      have h5 : (l.length : Int) ≤ 4 := by omega
      have HL := Lib.hid (ptsE_few h0 h2)
      have HE := Lib.hid (show partsE c = if ptsE l ≠ 0 then ptsE l else if c.moves.any (beyondM l.length) then 6 else 0 from by rw [partsE, hl])
      have HM := Lib.hid hm
      clear hm hl
      go_enter Tryz.func158, Tryz.ntmps158
      go_wp2
      go_loopw [5, 7, 20] (fun _ _ i wr => ∃ k : Nat, k ≤ l.length ∧ i = .int .i64 k ∧ Hid ((l.take k).all timOk = true) ∧ RowAt wr w.heap.size 64 (cueA c v1 (.slice (some ⟨b, off, none⟩) l.length cap)) ∧ Below w.heap.size w wr) (fun _ _ i _ => l.length - (intOf i).toNat)
      case atStart => exact ⟨0, Nat.zero_le _, rfl, by simp [Hid], RowAt.new _ _ _, by (repeat' (first | (with_reducible exact Below.refl _ _) | (with_reducible assumption) | (with_reducible refine below_run ?_ (by assumption)) | (with_reducible refine below_of_upd ?_ (by assumption) ?_) | (with_reducible refine below_drewN ?_ _) | (with_reducible refine Below.drew ?_) | (with_reducible refine below_seven ?_ ?_) | (with_reducible refine below_six ?_ ?_) | (with_reducible refine below_one ?_ ?_) | (with_reducible refine Below.alloc ?_ ?_ _) | (with_reducible refine below_after ?_ ?_ (by assumption)) | (show _ ≤ _; first | omega | (simp; done) | (simp; omega))))⟩
      case round =>
        obtain ⟨k, hk, rfl, hf, hrow, hb0⟩ := hrel
        by_cases hlt2 : k < l.length
        · have hlt3 : (k : Int) < (l.length : Int) := by omega
          have hk0 : (0 : Int) ≤ (k : Int) := by omega
          have hc' : ∀ j, j < l.length * 6 → wr.cell? ⟨b, off + j, none⟩ = genC 6 timA l j := fun j hj => (hb0.cell (p := ⟨b, off + j, none⟩) hlt).trans (hc j hj)
          obtain ⟨d, hd⟩ : ∃ d, l[k]? = some d := ⟨_, List.getElem?_eq_getElem hlt2⟩
          obtain ⟨e0, e1, e2, e3, e4, e5⟩ := tim_cells hc' k d hd
          have HD := Lib.hid hd
          have hbs0 := hb0.size
          have hb1 : Below w.heap.size w (wr.alloc (.cells #[.int .i64 d.up, .int .i64 d.down, .int .i64 d.pos, .int .i64 d.col, .int .i64 d.beam, .int .i64 d.del] 142)) := by (repeat' (first | (with_reducible exact Below.refl _ _) | (with_reducible assumption) | (with_reducible refine below_run ?_ (by assumption)) | (with_reducible refine below_of_upd ?_ (by assumption) ?_) | (with_reducible refine below_drewN ?_ _) | (with_reducible refine Below.drew ?_) | (with_reducible refine below_seven ?_ ?_) | (with_reducible refine below_six ?_ ?_) | (with_reducible refine below_one ?_ ?_) | (with_reducible refine Below.alloc ?_ ?_ _) | (with_reducible refine below_after ?_ ?_ (by assumption)) | (show _ ≤ _; first | omega | (simp; done) | (simp; omega))))
          have hrow1 : RowAt (wr.alloc (.cells #[.int .i64 d.up, .int .i64 d.down, .int .i64 d.pos, .int .i64 d.col, .int .i64 d.beam, .int .i64 d.del] 142)) w.heap.size 64 (cueA c v1 (.slice (some ⟨b, off, none⟩) l.length cap)) := hrow.alloc _
          have HB := Lib.hid (And.intro hb1 hrow1)
          have stop : Hid (timOk d = false → ((2 : Int) = partsE c)) := Lib.hid (fun e => by rw [HE.out, HL.out, allTo_bad HD.out e]; rfl)
          clear hd hc' hb1 hrow1 hrow hb0
          go_wp2
          go_loop [7, 37] (fun _ i => ∃ j : Nat, j ≤ 6 ∧ i = .int .i64 j ∧ Hid (tmTo d j = true)) (fun _ i => 6 - (intOf i).toNat)
          case atStart => exact ⟨0, by omega, rfl, by simp [Hid, tmTo]⟩
          case round =>
            obtain ⟨j, hj, rfl, ht⟩ := hrel
            have hj7 : j = 0 ∨ j = 1 ∨ j = 2 ∨ j = 3 ∨ j = 4 ∨ j = 5 ∨ j = 6 := by omega
            clear e0 e1 e2 e3 e4 e5
            rcases hj7 with rfl | rfl | rfl | rfl | rfl | rfl | rfl
            · have hix := fun W => Tryz.tim_at0 (.int .i64 d.up) (.int .i64 d.down) (.int .i64 d.pos) (.int .i64 d.col) (.int .i64 d.beam) (.int .i64 d.del) W
              have hsn : tmTo d 1 = (tmTo d 0 && timeOk d.up) := by simp [tmTo, timI]
              have HS := Lib.hid hsn
              clear hsn
              by_cases ho : 0 ≤ d.up ∧ d.up ≤ 10000000
              · have o1 : ¬ d.up < 0 := by omega
                have o2 : ¬ 10000000 < d.up := by omega
                have HO := Lib.hid (show timeOk d.up = true from by simpa [timeOk] using ho)
                clear ho
                go_wp2
                go_round
                case rel => exact ⟨1, by omega, by go_num, Lib.hid (by rw [HS.out, ht.out, HO.out]; rfl)⟩
                case measure => simp [intOf]
              · have HO := Lib.hid (show timOk d = false from by simp only [timOk, timeOk]; simp; omega)
                by_cases o1 : d.up < 0
                · clear ho
                  go_wp2
                  go_ret
                  exact ⟨ret_int (stop.out HO.out), HB.out.1⟩
                · have o2 : 10000000 < d.up := by omega
                  clear ho
                  go_wp2
                  go_ret
                  exact ⟨ret_int (stop.out HO.out), HB.out.1⟩
            · have hix := fun W => Tryz.tim_at1 (.int .i64 d.up) (.int .i64 d.down) (.int .i64 d.pos) (.int .i64 d.col) (.int .i64 d.beam) (.int .i64 d.del) W
              have hsn : tmTo d 2 = (tmTo d 1 && timeOk d.down) := by simp [tmTo, timI]
              have HS := Lib.hid hsn
              clear hsn
              by_cases ho : 0 ≤ d.down ∧ d.down ≤ 10000000
              · have o1 : ¬ d.down < 0 := by omega
                have o2 : ¬ 10000000 < d.down := by omega
                have HO := Lib.hid (show timeOk d.down = true from by simpa [timeOk] using ho)
                clear ho
                go_wp2
                go_round
                case rel => exact ⟨2, by omega, by go_num, Lib.hid (by rw [HS.out, ht.out, HO.out]; rfl)⟩
                case measure => simp [intOf]
              · have HO := Lib.hid (show timOk d = false from by simp only [timOk, timeOk]; simp; omega)
                by_cases o1 : d.down < 0
                · clear ho
                  go_wp2
                  go_ret
                  exact ⟨ret_int (stop.out HO.out), HB.out.1⟩
                · have o2 : 10000000 < d.down := by omega
                  clear ho
                  go_wp2
                  go_ret
                  exact ⟨ret_int (stop.out HO.out), HB.out.1⟩
            · have hix := fun W => Tryz.tim_at2 (.int .i64 d.up) (.int .i64 d.down) (.int .i64 d.pos) (.int .i64 d.col) (.int .i64 d.beam) (.int .i64 d.del) W
              have hsn : tmTo d 3 = (tmTo d 2 && timeOk d.pos) := by simp [tmTo, timI, Bool.and_assoc]
              have HS := Lib.hid hsn
              clear hsn
              by_cases ho : 0 ≤ d.pos ∧ d.pos ≤ 10000000
              · have o1 : ¬ d.pos < 0 := by omega
                have o2 : ¬ 10000000 < d.pos := by omega
                have HO := Lib.hid (show timeOk d.pos = true from by simpa [timeOk] using ho)
                clear ho
                go_wp2
                go_round
                case rel => exact ⟨3, by omega, by go_num, Lib.hid (by rw [HS.out, ht.out, HO.out]; rfl)⟩
                case measure => simp [intOf]
              · have HO := Lib.hid (show timOk d = false from by simp only [timOk, timeOk]; simp; omega)
                by_cases o1 : d.pos < 0
                · clear ho
                  go_wp2
                  go_ret
                  exact ⟨ret_int (stop.out HO.out), HB.out.1⟩
                · have o2 : 10000000 < d.pos := by omega
                  clear ho
                  go_wp2
                  go_ret
                  exact ⟨ret_int (stop.out HO.out), HB.out.1⟩
            · have hix := fun W => Tryz.tim_at3 (.int .i64 d.up) (.int .i64 d.down) (.int .i64 d.pos) (.int .i64 d.col) (.int .i64 d.beam) (.int .i64 d.del) W
              have hsn : tmTo d 4 = (tmTo d 3 && timeOk d.col) := by simp [tmTo, timI, Bool.and_assoc]
              have HS := Lib.hid hsn
              clear hsn
              by_cases ho : 0 ≤ d.col ∧ d.col ≤ 10000000
              · have o1 : ¬ d.col < 0 := by omega
                have o2 : ¬ 10000000 < d.col := by omega
                have HO := Lib.hid (show timeOk d.col = true from by simpa [timeOk] using ho)
                clear ho
                go_wp2
                go_round
                case rel => exact ⟨4, by omega, by go_num, Lib.hid (by rw [HS.out, ht.out, HO.out]; rfl)⟩
                case measure => simp [intOf]
              · have HO := Lib.hid (show timOk d = false from by simp only [timOk, timeOk]; simp; omega)
                by_cases o1 : d.col < 0
                · clear ho
                  go_wp2
                  go_ret
                  exact ⟨ret_int (stop.out HO.out), HB.out.1⟩
                · have o2 : 10000000 < d.col := by omega
                  clear ho
                  go_wp2
                  go_ret
                  exact ⟨ret_int (stop.out HO.out), HB.out.1⟩
            · have hix := fun W => Tryz.tim_at4 (.int .i64 d.up) (.int .i64 d.down) (.int .i64 d.pos) (.int .i64 d.col) (.int .i64 d.beam) (.int .i64 d.del) W
              have hsn : tmTo d 5 = (tmTo d 4 && timeOk d.beam) := by simp [tmTo, timI, Bool.and_assoc]
              have HS := Lib.hid hsn
              clear hsn
              by_cases ho : 0 ≤ d.beam ∧ d.beam ≤ 10000000
              · have o1 : ¬ d.beam < 0 := by omega
                have o2 : ¬ 10000000 < d.beam := by omega
                have HO := Lib.hid (show timeOk d.beam = true from by simpa [timeOk] using ho)
                clear ho
                go_wp2
                go_round
                case rel => exact ⟨5, by omega, by go_num, Lib.hid (by rw [HS.out, ht.out, HO.out]; rfl)⟩
                case measure => simp [intOf]
              · have HO := Lib.hid (show timOk d = false from by simp only [timOk, timeOk]; simp; omega)
                by_cases o1 : d.beam < 0
                · clear ho
                  go_wp2
                  go_ret
                  exact ⟨ret_int (stop.out HO.out), HB.out.1⟩
                · have o2 : 10000000 < d.beam := by omega
                  clear ho
                  go_wp2
                  go_ret
                  exact ⟨ret_int (stop.out HO.out), HB.out.1⟩
            · have hix := fun W => Tryz.tim_at5 (.int .i64 d.up) (.int .i64 d.down) (.int .i64 d.pos) (.int .i64 d.col) (.int .i64 d.beam) (.int .i64 d.del) W
              have hsn : tmTo d 6 = (tmTo d 5 && timeOk d.del) := by simp [tmTo, timI, Bool.and_assoc]
              have HS := Lib.hid hsn
              clear hsn
              by_cases ho : 0 ≤ d.del ∧ d.del ≤ 10000000
              · have o1 : ¬ d.del < 0 := by omega
                have o2 : ¬ 10000000 < d.del := by omega
                have HO := Lib.hid (show timeOk d.del = true from by simpa [timeOk] using ho)
                clear ho
                go_wp2
                go_round
                case rel => exact ⟨6, by omega, by go_num, Lib.hid (by rw [HS.out, ht.out, HO.out]; rfl)⟩
                case measure => simp [intOf]
              · have HO := Lib.hid (show timOk d = false from by simp only [timOk, timeOk]; simp; omega)
                by_cases o1 : d.del < 0
                · clear ho
                  go_wp2
                  go_ret
                  exact ⟨ret_int (stop.out HO.out), HB.out.1⟩
                · have o2 : 10000000 < d.del := by omega
                  clear ho
                  go_wp2
                  go_ret
                  exact ⟨ret_int (stop.out HO.out), HB.out.1⟩
            · go_wp2
              go_roundw
              case rel => exact ⟨k + 1, by omega, by go_num, Lib.hid (allTo_succ HD.out hf.out (by rw [← tmTo_six]; exact ht.out)), HB.out.2, HB.out.1⟩
              case measure => simp [intOf]; omega
        · obtain rfl : k = l.length := by omega
          have hall := hf.out
          rw [List.take_length] at hall
          have HE2 := Lib.hid (show partsE c = if c.moves.any (beyondM l.length) then 6 else 0 from by rw [HE.out, HL.out, hall]; rfl)
          obtain ⟨z, hz⟩ : ∃ z, c.moves.any (beyondM l.length) = z := ⟨_, rfl⟩
          have C := cpartsHas_any w.heap.size l.length cap (some ⟨b, off, none⟩) c v1 v1 c.moves wr hrow (by
            rcases HM.out with hx | ⟨x0, x1, bb, of, cp, rfl, hlx, hcx⟩
            · exact .inl hx
            · exact .inr ⟨x0, x1, bb, of, cp, rfl, Nat.lt_of_lt_of_le hlx hb0.size, fun j hj => (hb0.cell (p := ⟨bb, of + j, none⟩) hlx).trans (hcx j hj)⟩)
          rw [hz] at C HE2
          have HC := Lib.hid C
          obtain ⟨x1, x2, x3, x4, x5, x6⟩ := row_facts hrow
          simp only [cueA] at x1
          clear hall hz C hrow
          cases z with
          | true =>
            go_wp2_with fail
            refine HC.out.mono ?_
            rintro e w1 ⟨rfl, hb1⟩
            go_wp2
            go_ret
            exact ⟨ret_int (by rw [HE2.out]; rfl), hb0.trans (hb1.mono hb0.size)⟩
          | false =>
            go_wp2_with fail
            refine HC.out.mono ?_
            rintro e w1 ⟨rfl, hb1⟩
            go_wp2
            go_ret
            exact ⟨ret_int (by rw [HE2.out]; rfl), hb0.trans (hb1.mono hb0.size)⟩
    · have h3 : (4 : Int) < (l.length : Int) := by omega
      have h9 : ptsE l = 5 := by rw [ptsE, if_neg (by omega), if_pos (by omega)]
      have hE : partsE c = 5 := by rw [partsE, hl, h9]; rfl
      rw [hE]
      clear hE hm hl
      go_enter Tryz.func158, Tryz.ntmps158
      go_wp2
      go_ret
      exact ⟨rfl, by (repeat' (first | (with_reducible exact Below.refl _ _) | (with_reducible assumption) | (with_reducible refine below_run ?_ (by assumption)) | (with_reducible refine below_of_upd ?_ (by assumption) ?_) | (with_reducible refine below_drewN ?_ _) | (with_reducible refine Below.drew ?_) | (with_reducible refine below_seven ?_ ?_) | (with_reducible refine below_six ?_ ?_) | (with_reducible refine below_one ?_ ?_) | (with_reducible refine Below.alloc ?_ ?_ _) | (with_reducible refine below_after ?_ ?_ (by assumption)) | (show _ ≤ _; first | omega | (simp; done) | (simp; omega))))⟩
end Go.Proofs.YtjeigphhepngmaaGreatDoor
