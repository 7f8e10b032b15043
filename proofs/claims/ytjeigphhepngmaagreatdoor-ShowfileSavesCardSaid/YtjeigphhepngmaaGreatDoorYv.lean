/- -/
import Derived.Test.YtjeigphhepngmaaGreatDoorD5
import Derived.Test.YtjeigphhepngmaaGreatDoorJc
namespace Go.Proofs.YtjeigphhepngmaaGreatDoor
open Go.RowKit
open Go.Lib (hid)
set_option maxHeartbeats 8000000
set_option maxRecDepth 100000
def beyondM (n : Nat) (m : Mv) : Bool := decide ((n : Int) < m.part)
theorem zwx (q n cap : Nat) (a : Option Addr) (c : CueD) (v1 : Value) (m : Mv) (w : World) (hq : RowAt w q 64 (cueA c v1 (.slice a n cap))) :
  Calls Tryz.prog 254 #[.agg #[.int .i64 m.ch, .int .i64 m.at_, .int .i64 m.pal, .int .i64 m.lev, .int .i64 m.part], .pointer (some ⟨q, 0, none⟩)] w fun e w' => e = .returned (.bool (beyondM n m)) ∧ Below w.heap.size w w' := by
 obtain ⟨x1, x2, x3, x4, x5, x6⟩ := zaa hq
 simp only [cueA] at x1
 clear hq
 go_enter Tryz.func254, Tryz.ntmps254
 go_wp2
 all_goals go_ret
 all_goals exact ⟨zac (by grind [beyondM]), bel⟩
theorem zsm (q n cap : Nat) (a : Option Addr) (c : CueD) (v1 : Value) (v : Value) (l : List Mv) (w : World) (hq : RowAt w q 64 (cueA c v1 (.slice a n cap))) (hv : ListAt 5 mvA w v l) :
   Calls Tryz.prog 294 #[v, .func (.func 254) #[] #[.pointer (some ⟨q, 0, none⟩)]] w fun e w' => (∃ r : Int, e = .returned (.int .i64 r) ∧ Hid (decide (0 ≤ r) = l.any (beyondM n))) ∧ Below w.heap.size w w' := by
 rcases hv with ⟨h0, a2, cap2, rfl⟩ | ⟨h0, h1, b, off, cap2, rfl, hlt, hc⟩
 · have hl : l = [] := List.eq_nil_of_length_eq_zero h0
   subst hl
   clear hq
   go_enter Tryz.func294, Tryz.ntmps294
   go_wp2
   refine wp_loop_rounds 1 ?_
   rw [rounds_succ]
   go_wp2
   go_ret
   exact ⟨⟨_, rfl, hid rfl⟩, bel⟩
 have h3 : (l.length : Int) ≤ 140737488351232 := by omega
 have h4 : (0 : Int) < (l.length : Int) := by omega
 have HQ := hid hq
 clear hq
 go_enter Tryz.func294, Tryz.ntmps294
 go_wp2
 go_loopw [5, 8] (fun _ i wr => ∃ k : Nat, k ≤ l.length ∧ i = .int .i64 k ∧ Hid ((l.take k).any (beyondM n) = false) ∧ Below w.heap.size w wr) (fun _ i _ => l.length - (intOf i).toNat)
 case atStart => exact ⟨0, Nat.zero_le _, rfl, by simp [Hid], Below.refl _ _⟩
 case round =>
   obtain ⟨k, hk, rfl, hf, hb0⟩ := hrel
   by_cases hlt2 : k < l.length
   · have hlt3 : (k : Int) < (l.length : Int) := by omega
     have hk0 : (0 : Int) ≤ (k : Int) := by omega
     have hc' : ∀ j, j < l.length * 5 → wr.cell? ⟨b, off + j, none⟩ = genC 5 mvA l j := fun j hj => (hb0.cell (p := ⟨b, off + j, none⟩) hlt).trans (hc j hj)
     obtain ⟨d, hd⟩ : ∃ d, l[k]? = some d := ⟨_, List.getElem?_eq_getElem hlt2⟩
     obtain ⟨e0, e1, e2, e3, e4⟩ := zch hc' k d hd
     have HD := hid hd
     have C1 := fun (W : World) hb => zwx q n cap a c v1 d W (RowAt.run HQ.out hb)
     obtain ⟨z, hz⟩ : ∃ z, beyondM n d = z := ⟨_, rfl⟩
     rw [hz] at C1
     have H1 := hid C1
     have HZ := hid hz
     clear hc' hd C1 hz
     cases z with
     | true =>
       go_wp2_with fail
       refine (H1.out _ bel).mono ?_
       rintro e w1 ⟨rfl, hb1⟩
       go_wp2
       go_ret
       refine ⟨⟨_, rfl, hid ?_⟩, bel⟩
       have : l.any (beyondM n) = true := List.any_eq_true.2 ⟨d, List.mem_of_getElem? HD.out, HZ.out⟩
       rw [this]
       simp
     | false =>
       go_wp2_with fail
       refine (H1.out _ bel).mono ?_
       rintro e w1 ⟨rfl, hb1⟩
       go_wp2
       go_roundw
       case rel => exact ⟨k + 1, by omega, by go_num, hid (by rw [zaf HD.out, List.any_append, hf.out]; simp [HZ.out]), bel⟩
       case measure => simp [intOf]; omega
   obtain rfl : k = l.length := by omega
   go_wp2
   go_ret
   have := hf.out
   rw [List.take_length] at this
   exact ⟨⟨_, rfl, hid (by rw [this]; rfl)⟩, hb0⟩
theorem zua (q n cap : Nat) (a : Option Addr) (c : CueD) (v1 : Value) (v : Value) (l : List Mv) (w : World) (hq : RowAt w q 64 (cueA c v1 (.slice a n cap))) (hv : ListAt 5 mvA w v l) :
   Calls Tryz.prog 253 #[v, .func (.func 254) #[] #[.pointer (some ⟨q, 0, none⟩)]] w fun e w' => e = .returned (.bool (l.any (beyondM n))) ∧ Below w.heap.size w w' := by
 have C := hid (zsm q n cap a c v1 v l w hq hv)
 obtain ⟨z, hz⟩ : ∃ z, l.any (beyondM n) = z := ⟨_, rfl⟩
 rw [hz] at C ⊢
 clear hq hv hz
 go_enter Tryz.func253, Tryz.ntmps253
 go_wp2_with fail
 refine C.out.mono ?_
 rintro e w1 ⟨⟨r, rfl, hr⟩, hb1⟩
 cases z with
 | true =>
   have hr0 : 0 ≤ r := by simpa using hr.out
   have HR := hid hr0
   clear hr0
   go_wp2
   go_ret
   exact ⟨zac (by simpa using HR.out), hb1⟩
 | false =>
   have hr0 : ¬ 0 ≤ r := by simpa using hr.out
   have HR := hid hr0
   clear hr0
   go_wp2
   go_ret
   exact ⟨zac (by simpa using HR.out), hb1⟩
theorem Tryz.tim_at0 (a0 a1 a2 a3 a4 a5 : Value) (w : World) : (Instr.index 328 (.agg #[a0, a1, a2, a3, a4, a5]) (.int .i64 0)).run Tryz.prog w = .ok a0 w := by kernel_rfl
theorem Tryz.tim_at1 (a0 a1 a2 a3 a4 a5 : Value) (w : World) : (Instr.index 328 (.agg #[a0, a1, a2, a3, a4, a5]) (.int .i64 1)).run Tryz.prog w = .ok a1 w := by kernel_rfl
theorem Tryz.tim_at2 (a0 a1 a2 a3 a4 a5 : Value) (w : World) : (Instr.index 328 (.agg #[a0, a1, a2, a3, a4, a5]) (.int .i64 2)).run Tryz.prog w = .ok a2 w := by kernel_rfl
theorem Tryz.tim_at3 (a0 a1 a2 a3 a4 a5 : Value) (w : World) : (Instr.index 328 (.agg #[a0, a1, a2, a3, a4, a5]) (.int .i64 3)).run Tryz.prog w = .ok a3 w := by kernel_rfl
theorem Tryz.tim_at4 (a0 a1 a2 a3 a4 a5 : Value) (w : World) : (Instr.index 328 (.agg #[a0, a1, a2, a3, a4, a5]) (.int .i64 4)).run Tryz.prog w = .ok a4 w := by kernel_rfl
theorem Tryz.tim_at5 (a0 a1 a2 a3 a4 a5 : Value) (w : World) : (Instr.index 328 (.agg #[a0, a1, a2, a3, a4, a5]) (.int .i64 5)).run Tryz.prog w = .ok a5 w := by kernel_rfl
def tmTo (d : Tim) (j : Nat) : Bool := ((timI d).take j).all timeOk
theorem zqk (d : Tim) : tmTo d 6 = timOk d := by simp [tmTo, timI, timOk]
def partsE (c : CueD) : Int := if ptsE c.parts ≠ 0 then ptsE c.parts else if c.moves.any (beyondM c.parts.length) then 6 else 0
theorem zmn (c : CueD) (v1 v2 : Value) (w : World) (h : CueAt w v1 v2 c) :
   Calls Tryz.prog 158 #[.agg #[.string c.num, .string c.lab, v1, v2, .bool c.block, .bool c.mark, .int .i64 c.follow, .string c.link, .int .i64 c.loops]] w fun e w' => e = .returned (.int .i64 (partsE c)) ∧ Below w.heap.size w w' := by
 obtain ⟨hm, hp⟩ := h
 rcases hp with ⟨h0, a, cap, rfl⟩ | ⟨h0, h1, b, off, cap, rfl, hlt, hc⟩
 · have hl : c.parts = [] := List.eq_nil_of_length_eq_zero h0
   have hE : partsE c = 12 := by rw [partsE, hl]; rfl
   rw [hE]
   clear hm hE hl h0
   go_enter Tryz.func158, Tryz.ntmps158
   go_wp2
   go_ret
   exact ⟨rfl, bel⟩
 obtain ⟨l, hl⟩ : ∃ l, c.parts = l := ⟨_, rfl⟩
 rw [hl] at h0 h1 hc ⊢
 have q0 : ((l.length : Int) == 0) = false := by rw [beq_eq_false_iff_ne]; omega
 by_cases h2 : l.length ≤ 4
 · have h3 : ¬ (4 : Int) < (l.length : Int) := by omega
   have h4 : (0 : Int) < (l.length : Int) := by omega
   have h5 : (l.length : Int) ≤ 4 := by omega
   have HL := hid (zhi h0 h2)
   have HE := hid (show partsE c = if ptsE l ≠ 0 then ptsE l else if c.moves.any (beyondM l.length) then 6 else 0 from by rw [partsE, hl])
   have HM := hid hm
   clear hm hl
   go_enter Tryz.func158, Tryz.ntmps158
   go_wp2
   go_loopw [5, 7, 20] (fun _ _ i wr => ∃ k : Nat, k ≤ l.length ∧ i = .int .i64 k ∧ Hid ((l.take k).all timOk = true) ∧ RowAt wr w.heap.size 64 (cueA c v1 (.slice (some ⟨b, off, none⟩) l.length cap)) ∧ Below w.heap.size w wr) (fun _ _ i _ => l.length - (intOf i).toNat)
   case atStart => exact ⟨0, Nat.zero_le _, rfl, by simp [Hid], RowAt.new _ _ _, bel⟩
   case round =>
    obtain ⟨k, hk, rfl, hf, hrow, hb0⟩ := hrel
    by_cases hlt2 : k < l.length
    · have hlt3 : (k : Int) < (l.length : Int) := by omega
      have hk0 : (0 : Int) ≤ (k : Int) := by omega
      have hc' : ∀ j, j < l.length * 6 → wr.cell? ⟨b, off + j, none⟩ = genC 6 timA l j := fun j hj => (hb0.cell (p := ⟨b, off + j, none⟩) hlt).trans (hc j hj)
      obtain ⟨d, hd⟩ : ∃ d, l[k]? = some d := ⟨_, List.getElem?_eq_getElem hlt2⟩
      obtain ⟨e0, e1, e2, e3, e4, e5⟩ := zfu hc' k d hd
      have HD := hid hd
      have hbs0 := hb0.size
      have hb1 : Below w.heap.size w (wr.alloc (.cells #[.int .i64 d.up, .int .i64 d.down, .int .i64 d.pos, .int .i64 d.col, .int .i64 d.beam, .int .i64 d.del] 142)) := bel
      have hrow1 : RowAt (wr.alloc (.cells #[.int .i64 d.up, .int .i64 d.down, .int .i64 d.pos, .int .i64 d.col, .int .i64 d.beam, .int .i64 d.del] 142)) w.heap.size 64 (cueA c v1 (.slice (some ⟨b, off, none⟩) l.length cap)) := hrow.alloc _
      have HB := hid (And.intro hb1 hrow1)
      have stop : Hid (timOk d = false → ((2 : Int) = partsE c)) := hid (fun e => by rw [HE.out, HL.out, zhb HD.out e]; rfl)
      clear hd hc' hb1 hrow1 hrow hb0
      go_wp2
      go_loop [7, 37] (fun _ i => ∃ j : Nat, j ≤ 6 ∧ i = .int .i64 j ∧ Hid (tmTo d j = true)) (fun _ i => 6 - (intOf i).toNat)
      case atStart => exact ⟨0, by omega, rfl, by simp [Hid, tmTo]⟩
      case round =>
       obtain ⟨j, hj, rfl, ht⟩ := hrel
       have hj7 : j = 0 ∨ j = 1 ∨ j = 2 ∨ j = 3 ∨ j = 4 ∨ j = 5 ∨ j = 6 := by omega
       clear e0 e1 e2 e3 e4 e5
       rcases hj7 with rfl | rfl | rfl | rfl | rfl | rfl | rfl
       · have hix := fun W => Tryz.tim_at0 (.int .i64 d.up) (.int .i64 d.down) (.int .i64 d.pos) (.int .i64 d.col) (.int .i64 d.beam) (.int .i64 d.del) W
         have hsn : tmTo d 1 = (tmTo d 0 && timeOk d.up) := by simp [tmTo, timI]
         have HS := hid hsn
         clear hsn
         by_cases ho : 0 ≤ d.up ∧ d.up ≤ 10000000
         · have o1 : ¬ d.up < 0 := by omega
           have o2 : ¬ 10000000 < d.up := by omega
           have HO := hid (show timeOk d.up = true from by simpa [timeOk] using ho)
           clear ho
           go_wp2
           go_round
           case rel => exact ⟨1, by omega, by go_num, hid (by rw [HS.out, ht.out, HO.out]; rfl)⟩
           case measure => simp [intOf]
         have HO := hid (show timOk d = false from by simp only [timOk, timeOk]; simp; omega)
         by_cases o1 : d.up < 0
         · clear ho
           go_wp2
           go_ret
           exact ⟨zab (stop.out HO.out), HB.out.1⟩
         have o2 : 10000000 < d.up := by omega
         clear ho
         go_wp2
         go_ret
         exact ⟨zab (stop.out HO.out), HB.out.1⟩
       · have hix := fun W => Tryz.tim_at1 (.int .i64 d.up) (.int .i64 d.down) (.int .i64 d.pos) (.int .i64 d.col) (.int .i64 d.beam) (.int .i64 d.del) W
         have hsn : tmTo d 2 = (tmTo d 1 && timeOk d.down) := by simp [tmTo, timI]
         have HS := hid hsn
         clear hsn
         by_cases ho : 0 ≤ d.down ∧ d.down ≤ 10000000
         · have o1 : ¬ d.down < 0 := by omega
           have o2 : ¬ 10000000 < d.down := by omega
           have HO := hid (show timeOk d.down = true from by simpa [timeOk] using ho)
           clear ho
           go_wp2
           go_round
           case rel => exact ⟨2, by omega, by go_num, hid (by rw [HS.out, ht.out, HO.out]; rfl)⟩
           case measure => simp [intOf]
         have HO := hid (show timOk d = false from by simp only [timOk, timeOk]; simp; omega)
         by_cases o1 : d.down < 0
         · clear ho
           go_wp2
           go_ret
           exact ⟨zab (stop.out HO.out), HB.out.1⟩
         have o2 : 10000000 < d.down := by omega
         clear ho
         go_wp2
         go_ret
         exact ⟨zab (stop.out HO.out), HB.out.1⟩
       · have hix := fun W => Tryz.tim_at2 (.int .i64 d.up) (.int .i64 d.down) (.int .i64 d.pos) (.int .i64 d.col) (.int .i64 d.beam) (.int .i64 d.del) W
         have hsn : tmTo d 3 = (tmTo d 2 && timeOk d.pos) := by simp [tmTo, timI, Bool.and_assoc]
         have HS := hid hsn
         clear hsn
         by_cases ho : 0 ≤ d.pos ∧ d.pos ≤ 10000000
         · have o1 : ¬ d.pos < 0 := by omega
           have o2 : ¬ 10000000 < d.pos := by omega
           have HO := hid (show timeOk d.pos = true from by simpa [timeOk] using ho)
           clear ho
           go_wp2
           go_round
           case rel => exact ⟨3, by omega, by go_num, hid (by rw [HS.out, ht.out, HO.out]; rfl)⟩
           case measure => simp [intOf]
         have HO := hid (show timOk d = false from by simp only [timOk, timeOk]; simp; omega)
         by_cases o1 : d.pos < 0
         · clear ho
           go_wp2
           go_ret
           exact ⟨zab (stop.out HO.out), HB.out.1⟩
         have o2 : 10000000 < d.pos := by omega
         clear ho
         go_wp2
         go_ret
         exact ⟨zab (stop.out HO.out), HB.out.1⟩
       · have hix := fun W => Tryz.tim_at3 (.int .i64 d.up) (.int .i64 d.down) (.int .i64 d.pos) (.int .i64 d.col) (.int .i64 d.beam) (.int .i64 d.del) W
         have hsn : tmTo d 4 = (tmTo d 3 && timeOk d.col) := by simp [tmTo, timI, Bool.and_assoc]
         have HS := hid hsn
         clear hsn
         by_cases ho : 0 ≤ d.col ∧ d.col ≤ 10000000
         · have o1 : ¬ d.col < 0 := by omega
           have o2 : ¬ 10000000 < d.col := by omega
           have HO := hid (show timeOk d.col = true from by simpa [timeOk] using ho)
           clear ho
           go_wp2
           go_round
           case rel => exact ⟨4, by omega, by go_num, hid (by rw [HS.out, ht.out, HO.out]; rfl)⟩
           case measure => simp [intOf]
         have HO := hid (show timOk d = false from by simp only [timOk, timeOk]; simp; omega)
         by_cases o1 : d.col < 0
         · clear ho
           go_wp2
           go_ret
           exact ⟨zab (stop.out HO.out), HB.out.1⟩
         have o2 : 10000000 < d.col := by omega
         clear ho
         go_wp2
         go_ret
         exact ⟨zab (stop.out HO.out), HB.out.1⟩
       · have hix := fun W => Tryz.tim_at4 (.int .i64 d.up) (.int .i64 d.down) (.int .i64 d.pos) (.int .i64 d.col) (.int .i64 d.beam) (.int .i64 d.del) W
         have hsn : tmTo d 5 = (tmTo d 4 && timeOk d.beam) := by simp [tmTo, timI, Bool.and_assoc]
         have HS := hid hsn
         clear hsn
         by_cases ho : 0 ≤ d.beam ∧ d.beam ≤ 10000000
         · have o1 : ¬ d.beam < 0 := by omega
           have o2 : ¬ 10000000 < d.beam := by omega
           have HO := hid (show timeOk d.beam = true from by simpa [timeOk] using ho)
           clear ho
           go_wp2
           go_round
           case rel => exact ⟨5, by omega, by go_num, hid (by rw [HS.out, ht.out, HO.out]; rfl)⟩
           case measure => simp [intOf]
         have HO := hid (show timOk d = false from by simp only [timOk, timeOk]; simp; omega)
         by_cases o1 : d.beam < 0
         · clear ho
           go_wp2
           go_ret
           exact ⟨zab (stop.out HO.out), HB.out.1⟩
         have o2 : 10000000 < d.beam := by omega
         clear ho
         go_wp2
         go_ret
         exact ⟨zab (stop.out HO.out), HB.out.1⟩
       · have hix := fun W => Tryz.tim_at5 (.int .i64 d.up) (.int .i64 d.down) (.int .i64 d.pos) (.int .i64 d.col) (.int .i64 d.beam) (.int .i64 d.del) W
         have hsn : tmTo d 6 = (tmTo d 5 && timeOk d.del) := by simp [tmTo, timI, Bool.and_assoc]
         have HS := hid hsn
         clear hsn
         by_cases ho : 0 ≤ d.del ∧ d.del ≤ 10000000
         · have o1 : ¬ d.del < 0 := by omega
           have o2 : ¬ 10000000 < d.del := by omega
           have HO := hid (show timeOk d.del = true from by simpa [timeOk] using ho)
           clear ho
           go_wp2
           go_round
           case rel => exact ⟨6, by omega, by go_num, hid (by rw [HS.out, ht.out, HO.out]; rfl)⟩
           case measure => simp [intOf]
         have HO := hid (show timOk d = false from by simp only [timOk, timeOk]; simp; omega)
         by_cases o1 : d.del < 0
         · clear ho
           go_wp2
           go_ret
           exact ⟨zab (stop.out HO.out), HB.out.1⟩
         have o2 : 10000000 < d.del := by omega
         clear ho
         go_wp2
         go_ret
         exact ⟨zab (stop.out HO.out), HB.out.1⟩
       go_wp2
       go_roundw
       case rel => exact ⟨k + 1, by omega, by go_num, hid (zis HD.out hf.out (by rw [← zqk]; exact ht.out)), HB.out.2, HB.out.1⟩
       case measure => simp [intOf]; omega
    obtain rfl : k = l.length := by omega
    have hall := hf.out
    rw [List.take_length] at hall
    have HE2 := hid (show partsE c = if c.moves.any (beyondM l.length) then 6 else 0 from by rw [HE.out, HL.out, hall]; rfl)
    obtain ⟨z, hz⟩ : ∃ z, c.moves.any (beyondM l.length) = z := ⟨_, rfl⟩
    have C := zua w.heap.size l.length cap (some ⟨b, off, none⟩) c v1 v1 c.moves wr hrow (by
      rcases HM.out with hx | ⟨x0, x1, bb, of, cp, rfl, hlx, hcx⟩
      · exact .inl hx
      exact .inr ⟨x0, x1, bb, of, cp, rfl, Nat.lt_of_lt_of_le hlx hb0.size, fun j hj => (hb0.cell (p := ⟨bb, of + j, none⟩) hlx).trans (hcx j hj)⟩)
    rw [hz] at C HE2
    have HC := hid C
    obtain ⟨x1, x2, x3, x4, x5, x6⟩ := zaa hrow
    simp only [cueA] at x1
    clear hall hz C hrow
    cases z with
    | true =>
      go_wp2_with fail
      refine HC.out.mono ?_
      rintro e w1 ⟨rfl, hb1⟩
      go_wp2
      go_ret
      exact ⟨zab (by rw [HE2.out]; rfl), hb0.trans (hb1.mono hb0.size)⟩
    | false =>
      go_wp2_with fail
      refine HC.out.mono ?_
      rintro e w1 ⟨rfl, hb1⟩
      go_wp2
      go_ret
      exact ⟨zab (by rw [HE2.out]; rfl), hb0.trans (hb1.mono hb0.size)⟩
 have h3 : (4 : Int) < (l.length : Int) := by omega
 have h9 : ptsE l = 5 := by rw [ptsE, if_neg (by omega), if_pos (by omega)]
 have hE : partsE c = 5 := by rw [partsE, hl, h9]; rfl
 rw [hE]
 clear hE hm hl
 go_enter Tryz.func158, Tryz.ntmps158
 go_wp2
 go_ret
 exact ⟨rfl, bel⟩
theorem zii {s : ByteArray} (h : s.size = 0) : s = ⟨#[]⟩ := by
 apply ByteArray.ext
 have : s.data.size = 0 := h
 exact Array.eq_empty_of_size_eq_zero this
theorem zd1 {s : ByteArray} (h : ¬ s.size = 0) : s.toList.isEmpty = false := by
 rw [Lib.toList_data]
 cases hh : s.data.toList with
 | nil =>
   have : s.data.toList.length = s.size := by simp
   rw [hh] at this
   simp at this
   omega
 | cons a l => rfl
def linkE (li : ByteArray) (lo : Int) : Int := if li.size ≠ 0 ∧ chk5 li.data.toList ≠ 0 then chk5 li.data.toList else if lo < 0 ∨ 100 < lo then 2 else if 0 < lo ∧ li.size = 0 then 11 else 0
theorem zjp {li : ByteArray} (he : li.size = 0) (lo : Int) : linkE li lo = if lo < 0 ∨ 100 < lo then 2 else if 0 < lo then 11 else 0 := by
 unfold linkE
 rw [if_neg (fun h => h.1 he)]
 split
 · rfl
 by_cases hl : 0 < lo
 · rw [if_pos ⟨hl, he⟩, if_pos hl]
 rw [if_neg (fun h => hl h.1), if_neg hl]
theorem zjl (c : CueD) : nextE c = if c.follow ≠ -1 ∧ (c.follow < 25 ∨ 10000000 < c.follow) then 2 else linkE c.link c.loops := rfl
theorem zte (c : CueD) (v1 v2 : Value) (w : World) (hl : c.link.size ≤ 9223372036854775806) :
   Calls Tryz.prog 159 #[.agg #[.string c.num, .string c.lab, v1, v2, .bool c.block, .bool c.mark, .int .i64 c.follow, .string c.link, .int .i64 c.loops]] w fun e w' => e = .returned (.int .i64 (nextE c)) ∧ Below w.heap.size w w' := by
 have hN := zjl c
 obtain ⟨nu, la, ms, ps, bl, mk, fo, li, lo⟩ := c
 simp only at hN hl ⊢
 by_cases h1 : fo ≠ -1 ∧ (fo < 25 ∨ 10000000 < fo)
 · rw [if_pos h1] at hN
   rw [hN]
   have h2 : (fo != -1) = true := by simpa using h1.1
   clear hN
   by_cases h3 : fo < 25
   · clear h1
     go_enter Tryz.func159, Tryz.ntmps159
     go_wp2
     go_ret
     exact ⟨rfl, bel⟩
   have h4 : 10000000 < fo := by omega
   clear h1
   go_enter Tryz.func159, Tryz.ntmps159
   go_wp2
   go_ret
   exact ⟨rfl, bel⟩
 rw [if_neg h1] at hN
 have hcase : fo = -1 ∨ (¬ fo < 25 ∧ ¬ 10000000 < fo) := by omega
 have HN := hid hN
 clear hN h1
 by_cases he : li.size = 0
 · obtain rfl := zii he
   have hz := zjp he lo
   have HZ := hid hz
   clear hz he
   rcases hcase with rfl | ⟨f1, f2⟩
   all_goals
     go_enter Tryz.func159, Tryz.ntmps159
     go_wp2
     all_goals go_ret
     all_goals exact ⟨zab (by rw [HN.out, HZ.out]; grind), bel⟩
 have he2 := zd1 he
 obtain ⟨r, hr⟩ : ∃ r, chk5 li.data.toList = r := ⟨_, rfl⟩
 have C := fun W => zcs li W hl
 rw [hr] at C
 have HC := hid C
 have hz : linkE li lo = if r ≠ 0 then r else if lo < 0 ∨ 100 < lo then 2 else 0 := by simp only [linkE, hr]; simp [he]
 have HZ := hid hz
 clear C hr hz he
 by_cases hr0 : r = 0
 · subst hr0
   rcases hcase with rfl | ⟨f1, f2⟩
   · go_enter Tryz.func159, Tryz.ntmps159
     go_wp2_with fail
     refine (HC.out _).mono ?_
     rintro e w1 ⟨rfl, hb⟩
     have hr : RowAt w1 w.heap.size 64 #[.string nu, .string la, v1, v2, .bool bl, .bool mk, .int .i64 (-1), .string li, .int .i64 lo] := rwt; obtain ⟨hra, hrb, hrc, hrd, hre, hrf⟩ := zaa hr
     go_wp2
     all_goals go_ret
     all_goals exact ⟨zab (by rw [HN.out, HZ.out]; grind), bel⟩
   go_enter Tryz.func159, Tryz.ntmps159
   go_wp2_with fail
   refine (HC.out _).mono ?_
   rintro e w1 ⟨rfl, hb⟩
   have hr : RowAt w1 w.heap.size 64 #[.string nu, .string la, v1, v2, .bool bl, .bool mk, .int .i64 fo, .string li, .int .i64 lo] := rwt; obtain ⟨hra, hrb, hrc, hrd, hre, hrf⟩ := zaa hr
   go_wp2
   all_goals go_ret
   all_goals exact ⟨zab (by rw [HN.out, HZ.out]; grind), bel⟩
 have hr1 : (r != 0) = true := by simpa using hr0
 rcases hcase with rfl | ⟨f1, f2⟩
 all_goals
   go_enter Tryz.func159, Tryz.ntmps159
   go_wp2_with fail
   refine (HC.out _).mono ?_
   rintro e w1 ⟨rfl, hb⟩
   go_wp2
   go_ret
   exact ⟨zab (by rw [HN.out, HZ.out, if_pos hr0]), bel⟩
theorem zsw (c : CueD) (v1 v2 : Value) (w : World) (hl : c.link.size ≤ 9223372036854775806) :
   Calls Tryz.prog 170 #[.agg #[.string c.num, .string c.lab, v1, v2, .bool c.block, .bool c.mark, .int .i64 c.follow, .string c.link, .int .i64 c.loops]] w fun e w' => e = .returned (.int .i64 (nextE c)) ∧ Below w.heap.size w w' := by
 have hN := zjl c
 obtain ⟨nu, la, ms, ps, bl, mk, fo, li, lo⟩ := c
 simp only at hN hl ⊢
 by_cases h1 : fo ≠ -1 ∧ (fo < 25 ∨ 10000000 < fo)
 · rw [if_pos h1] at hN
   rw [hN]
   have h2 : (fo != -1) = true := by simpa using h1.1
   clear hN
   by_cases h3 : fo < 25
   · clear h1
     go_enter Tryz.func170, Tryz.ntmps170
     go_wp2
     go_ret
     exact ⟨rfl, bel⟩
   have h4 : 10000000 < fo := by omega
   clear h1
   go_enter Tryz.func170, Tryz.ntmps170
   go_wp2
   go_ret
   exact ⟨rfl, bel⟩
 rw [if_neg h1] at hN
 have hcase : fo = -1 ∨ (¬ fo < 25 ∧ ¬ 10000000 < fo) := by omega
 have HN := hid hN
 clear hN h1
 by_cases he : li.size = 0
 · obtain rfl := zii he
   have hz := zjp he lo
   have HZ := hid hz
   clear hz he
   rcases hcase with rfl | ⟨f1, f2⟩
   all_goals
     go_enter Tryz.func170, Tryz.ntmps170
     go_wp2
     all_goals go_ret
     all_goals exact ⟨zab (by rw [HN.out, HZ.out]; grind), bel⟩
 have he2 := zd1 he
 obtain ⟨r, hr⟩ : ∃ r, chk5 li.data.toList = r := ⟨_, rfl⟩
 have C := fun W => ziq li W hl
 rw [hr] at C
 have HC := hid C
 have hz : linkE li lo = if r ≠ 0 then r else if lo < 0 ∨ 100 < lo then 2 else 0 := by simp only [linkE, hr]; simp [he]
 have HZ := hid hz
 clear C hr hz he
 by_cases hr0 : r = 0
 · subst hr0
   rcases hcase with rfl | ⟨f1, f2⟩
   · go_enter Tryz.func170, Tryz.ntmps170
     go_wp2_with fail
     refine (HC.out _).mono ?_
     rintro e w1 ⟨rfl, hb⟩
     have hr : RowAt w1 w.heap.size 64 #[.string nu, .string la, v1, v2, .bool bl, .bool mk, .int .i64 (-1), .string li, .int .i64 lo] := rwt; obtain ⟨hra, hrb, hrc, hrd, hre, hrf⟩ := zaa hr
     go_wp2
     all_goals go_ret
     all_goals exact ⟨zab (by rw [HN.out, HZ.out]; grind), bel⟩
   go_enter Tryz.func170, Tryz.ntmps170
   go_wp2_with fail
   refine (HC.out _).mono ?_
   rintro e w1 ⟨rfl, hb⟩
   have hr : RowAt w1 w.heap.size 64 #[.string nu, .string la, v1, v2, .bool bl, .bool mk, .int .i64 fo, .string li, .int .i64 lo] := rwt; obtain ⟨hra, hrb, hrc, hrd, hre, hrf⟩ := zaa hr
   go_wp2
   all_goals go_ret
   all_goals exact ⟨zab (by rw [HN.out, HZ.out]; grind), bel⟩
 have hr1 : (r != 0) = true := by simpa using hr0
 rcases hcase with rfl | ⟨f1, f2⟩
 all_goals
   go_enter Tryz.func170, Tryz.ntmps170
   go_wp2_with fail
   refine (HC.out _).mono ?_
   rintro e w1 ⟨rfl, hb⟩
   go_wp2
   go_ret
   exact ⟨zab (by rw [HN.out, HZ.out, if_pos hr0]), bel⟩
theorem zta (c : CueD) : cueE c = if chk5 c.num.data.toList ≠ 0 then chk5 c.num.data.toList else if labE c.lab ≠ 0 then labE c.lab else if movesE c.moves ≠ 0 then movesE c.moves else if partsE c ≠ 0 then partsE c else nextE c := by
 unfold cueE partsE
 have hb : (c.moves.any fun m => decide ((c.parts.length : Int) < m.part)) = c.moves.any (beyondM c.parts.length) := rfl
 rw [hb]
 split
 · rfl
 split
 · rfl
 split
 · rfl
 by_cases h : ptsE c.parts = 0
 · simp only [h, ne_eq, not_true_eq_false, if_false]
   split <;> simp
 simp [h]
theorem zrm (c : CueD) (v1 v2 : Value) (w : World) (hn : c.num.size ≤ 9223372036854775806) :
  Calls Tryz.prog 152 #[.agg #[.string c.num, .string c.lab, v1, v2, .bool c.block, .bool c.mark, .int .i64 c.follow, .string c.link, .int .i64 c.loops]] w fun e w' => e = .returned (.int .i64 (chk5 c.num.data.toList)) ∧ Below w.heap.size w w' := by
 have C := hid (fun (W : World) (hb : Below w.heap.size w W) => zcs c.num W hn)
 clear hn
 go_enter Tryz.func152, Tryz.ntmps152
 go_wp2_with fail
 refine (C.out _ bel).mono ?_
 rintro e w1 ⟨rfl, hb⟩
 go_wp2
 go_ret
 exact ⟨rfl, bel⟩
theorem zr8 (c : CueD) (v1 v2 : Value) (w : World) (hl : c.lab.size ≤ 9223372036854775807) :
  Calls Tryz.prog 154 #[.agg #[.string c.num, .string c.lab, v1, v2, .bool c.block, .bool c.mark, .int .i64 c.follow, .string c.link, .int .i64 c.loops]] w fun e w' => e = .returned (.int .i64 (labE c.lab)) ∧ Below w.heap.size w w' := by
 have C := hid (fun (W : World) (hb : Below w.heap.size w W) => ztr c.lab W hl)
 clear hl
 go_enter Tryz.func154, Tryz.ntmps154
 go_wp2_with fail
 refine (C.out _ bel).mono ?_
 rintro e w1 ⟨rfl, hb⟩
 go_wp2
 go_ret
 exact ⟨rfl, bel⟩
theorem zu2 (c : CueD) (v1 v2 : Value) (w : World) (hm : ListAt 5 mvA w v1 c.moves) (hcap : CapOk v1) :
  Calls Tryz.prog 156 #[.agg #[.string c.num, .string c.lab, v1, v2, .bool c.block, .bool c.mark, .int .i64 c.follow, .string c.link, .int .i64 c.loops]] w fun e w' => e = .returned (.int .i64 (movesE c.moves)) ∧ Below w.heap.size w w' := by
 have C := hid (fun (W : World) (hb : Below w.heap.size w W) => zmw v1 c.moves W (hm.run hb) hcap)
 clear hm hcap
 go_enter Tryz.func156, Tryz.ntmps156
 go_wp2_with fail
 refine (C.out _ bel).mono ?_
 rintro e w1 ⟨rfl, hb⟩
 go_wp2
 go_ret
 exact ⟨rfl, bel⟩
def chkFns : Array Value := #[.func (.func 152) #[] #[], .func (.func 154) #[] #[], .func (.func 156) #[] #[], .func (.func 158) #[] #[], .func (.func 159) #[] #[]]
def fiveE (c : CueD) (k : Nat) : Int := if k = 0 then chk5 c.num.data.toList else if k = 1 then labE c.lab else if k = 2 then movesE c.moves else if k = 3 then partsE c else nextE c
theorem zml (c : CueD) : cueE c = firstE (fiveE c) 0 (5 - 0) := by
 rw [zta]
 have hx : (if nextE c ≠ 0 then nextE c else 0) = nextE c := by split <;> omega
 show _ = (if chk5 c.num.data.toList ≠ 0 then chk5 c.num.data.toList else if labE c.lab ≠ 0 then labE c.lab else if movesE c.moves ≠ 0 then movesE c.moves else if partsE c ≠ 0 then partsE c else if nextE c ≠ 0 then nextE c else 0)
 rw [hx]
theorem zjm (c : CueD) (v1 v2 : Value) (w : World) (h : CueAt w v1 v2 c) (hcap : CapOk v1) (hn : c.num.size ≤ 9223372036854775806) (hl : c.lab.size ≤ 9223372036854775807) (hk : c.link.size ≤ 9223372036854775806) :
  Calls Tryz.prog 68 #[.agg #[.string c.num, .string c.lab, v1, v2, .bool c.block, .bool c.mark, .int .i64 c.follow, .string c.link, .int .i64 c.loops]] w fun e w' => e = .returned (.int .i64 (cueE c)) ∧ Below w.heap.size w w' := by
 have HF := hid (zml c)
 have F0 := hid (fun (W : World) (_ : Below w.heap.size w W) => zrm c v1 v2 W hn)
 have F1 := hid (fun (W : World) (_ : Below w.heap.size w W) => zr8 c v1 v2 W hl)
 have F2 := hid (fun (W : World) (hb : Below w.heap.size w W) => zu2 c v1 v2 W (h.moves.run hb) hcap)
 have F3 := hid (fun (W : World) (hb : Below w.heap.size w W) => zmn c v1 v2 W (h.run hb))
 have F4 := hid (fun (W : World) (_ : Below w.heap.size w W) => zte c v1 v2 W hk)
 obtain ⟨q0, hq0⟩ : ∃ q, fiveE c 0 = q := ⟨_, rfl⟩
 obtain ⟨q1, hq1⟩ : ∃ q, fiveE c 1 = q := ⟨_, rfl⟩
 obtain ⟨q2, hq2⟩ : ∃ q, fiveE c 2 = q := ⟨_, rfl⟩
 obtain ⟨q3, hq3⟩ : ∃ q, fiveE c 3 = q := ⟨_, rfl⟩
 obtain ⟨q4, hq4⟩ : ∃ q, fiveE c 4 = q := ⟨_, rfl⟩
 rw [show chk5 c.num.data.toList = q0 from hq0] at F0
 rw [show labE c.lab = q1 from hq1] at F1
 rw [show movesE c.moves = q2 from hq2] at F2
 rw [show partsE c = q3 from hq3] at F3
 rw [show nextE c = q4 from hq4] at F4
 have Q0 := hid hq0
 have Q1 := hid hq1
 have Q2 := hid hq2
 have Q3 := hid hq3
 have Q4 := hid hq4
 clear hq0 hq1 hq2 hq3 hq4 h hcap hn hl hk
 go_enter Tryz.func68, Tryz.ntmps68
 go_wp2
 go_loopw [4, 5, 8] (fun _ _ i wr => ∃ k : Nat, k ≤ 5 ∧ i = .int .i64 k ∧ Hid (cueE c = firstE (fiveE c) k (5 - k)) ∧ RowAt wr w.heap.size 64 #[.string c.num, .string c.lab, v1, v2, .bool c.block, .bool c.mark, .int .i64 c.follow, .string c.link, .int .i64 c.loops] ∧ RowAt wr (w.heap.size + 1) 129 chkFns ∧ Below w.heap.size w wr) (fun _ _ i _ => 5 - (intOf i).toNat)
 case atStart => exact ⟨0, by omega, rfl, HF, RowAt.alloc (RowAt.new _ _ _) _, RowAt.mk (by simp) rfl, bel⟩
 case round =>
  obtain ⟨k, hk, rfl, hf, hr1, hr2, hbel⟩ := hrel
  obtain ⟨a1, a2, a3, a4, a5, a6⟩ := zaa hr1
  obtain ⟨b1, b2, b3, b4, b5, b6⟩ := zaa hr2
  simp only [chkFns] at b1
  have hk5 : k = 0 ∨ k = 1 ∨ k = 2 ∨ k = 3 ∨ k = 4 ∨ k = 5 := by omega
  rcases hk5 with rfl | rfl | rfl | rfl | rfl | rfl
  · go_wp2_with fail
    refine (F0.out _ hbel).mono ?_
    rintro e w3 ⟨rfl, hb3⟩
    have r1 := hr1.run hb3
    have r2 := hr2.run hb3
    have HB := hid (zay hbel hb3)
    clear hb3
    by_cases hq : q0 = 0
    · subst hq
      go_wp2
      go_roundw
      case rel => exact ⟨1, by omega, by go_num, hid (hf.out.trans (zcc (by omega) Q0.out)), r1, r2, HB.out⟩
      case measure => simp [intOf]
    have hq2 : (q0 != 0) = true := by simpa using hq
    go_wp2
    go_ret
    exact ⟨zab (by rw [hf.out, zb8 (by omega) (by rw [Q0.out]; exact hq), Q0.out]), HB.out⟩
  · go_wp2_with fail
    refine (F1.out _ hbel).mono ?_
    rintro e w3 ⟨rfl, hb3⟩
    have r1 := hr1.run hb3
    have r2 := hr2.run hb3
    have HB := hid (zay hbel hb3)
    clear hb3
    by_cases hq : q1 = 0
    · subst hq
      go_wp2
      go_roundw
      case rel => exact ⟨2, by omega, by go_num, hid (hf.out.trans (zcc (by omega) Q1.out)), r1, r2, HB.out⟩
      case measure => simp [intOf]
    have hq2 : (q1 != 0) = true := by simpa using hq
    go_wp2
    go_ret
    exact ⟨zab (by rw [hf.out, zb8 (by omega) (by rw [Q1.out]; exact hq), Q1.out]), HB.out⟩
  · go_wp2_with fail
    refine (F2.out _ hbel).mono ?_
    rintro e w3 ⟨rfl, hb3⟩
    have r1 := hr1.run hb3
    have r2 := hr2.run hb3
    have HB := hid (zay hbel hb3)
    clear hb3
    by_cases hq : q2 = 0
    · subst hq
      go_wp2
      go_roundw
      case rel => exact ⟨3, by omega, by go_num, hid (hf.out.trans (zcc (by omega) Q2.out)), r1, r2, HB.out⟩
      case measure => simp [intOf]
    have hq2 : (q2 != 0) = true := by simpa using hq
    go_wp2
    go_ret
    exact ⟨zab (by rw [hf.out, zb8 (by omega) (by rw [Q2.out]; exact hq), Q2.out]), HB.out⟩
  · go_wp2_with fail
    refine (F3.out _ hbel).mono ?_
    rintro e w3 ⟨rfl, hb3⟩
    have r1 := hr1.run hb3
    have r2 := hr2.run hb3
    have HB := hid (zay hbel hb3)
    clear hb3
    by_cases hq : q3 = 0
    · subst hq
      go_wp2
      go_roundw
      case rel => exact ⟨4, by omega, by go_num, hid (hf.out.trans (zcc (by omega) Q3.out)), r1, r2, HB.out⟩
      case measure => simp [intOf]
    have hq2 : (q3 != 0) = true := by simpa using hq
    go_wp2
    go_ret
    exact ⟨zab (by rw [hf.out, zb8 (by omega) (by rw [Q3.out]; exact hq), Q3.out]), HB.out⟩
  · go_wp2_with fail
    refine (F4.out _ hbel).mono ?_
    rintro e w3 ⟨rfl, hb3⟩
    have r1 := hr1.run hb3
    have r2 := hr2.run hb3
    have HB := hid (zay hbel hb3)
    clear hb3
    by_cases hq : q4 = 0
    · subst hq
      go_wp2
      go_roundw
      case rel => exact ⟨5, by omega, by go_num, hid (hf.out.trans (zcc (by omega) Q4.out)), r1, r2, HB.out⟩
      case measure => simp [intOf]
    have hq2 : (q4 != 0) = true := by simpa using hq
    go_wp2
    go_ret
    exact ⟨zab (by rw [hf.out, zb8 (by omega) (by rw [Q4.out]; exact hq), Q4.out]), HB.out⟩
  go_wp2
  go_ret
  exact ⟨zab (by rw [hf.out]; rfl), hbel⟩
theorem znc (c : CueD) : cueE c = if chk5 c.num.data.toList ≠ 0 then chk5 c.num.data.toList else if labE c.lab ≠ 0 then labE c.lab else if movesE c.moves ≠ 0 then movesE c.moves else if ptsE c.parts ≠ 0 then ptsE c.parts else if c.moves.any (beyondM c.parts.length) then 6 else nextE c := rfl
theorem zxa (c : CueD) (v1 v2 : Value) (w : World) (h : CueAt w v1 v2 c) (hn : c.num.size ≤ 9223372036854775806) (hl : c.lab.size ≤ 9223372036854775807) (hk : c.link.size ≤ 9223372036854775806) :
   Calls Tryz.prog 72 #[.agg #[.string c.num, .string c.lab, v1, v2, .bool c.block, .bool c.mark, .int .i64 c.follow, .string c.link, .int .i64 c.loops]] w fun e w' => e = .returned (.int .i64 (cueE c)) ∧ Below w.heap.size w w' := by
 have hsh1 : ∃ a cap, v1 = .slice a c.moves.length cap ∧ c.moves.length ≤ 140737488351232 := by
   rcases h.moves with ⟨h0, a, cap, rfl⟩ | ⟨_, h1, g, off, cap, rfl, _⟩
   · exact ⟨a, cap, by rw [h0], by omega⟩
   exact ⟨_, _, rfl, h1⟩
 have hsh2 : ∃ a cap, v2 = .slice a c.parts.length cap ∧ c.parts.length ≤ 140737488351232 := by
   rcases h.parts with ⟨h0, a, cap, rfl⟩ | ⟨_, h1, g, off, cap, rfl, _⟩
   · exact ⟨a, cap, by rw [h0], by omega⟩
   exact ⟨_, _, rfl, h1⟩
 obtain ⟨a1, cap1, rfl, hml⟩ := hsh1
 obtain ⟨a2, cap2, rfl, hpl⟩ := hsh2
 have HA := hid h
 have hE := znc c
 have F0 := fun (W : World) (_ : Below w.heap.size w W) => ziq c.num W hn
 obtain ⟨q0, hq0⟩ : ∃ q, chk5 c.num.data.toList = q := ⟨_, rfl⟩
 rw [hq0] at F0 hE
 have F1 := fun (W : World) (_ : Below w.heap.size w W) => zqn c.lab W hl
 obtain ⟨q1, hq1⟩ : ∃ q, labE c.lab = q := ⟨_, rfl⟩
 rw [hq1] at F1 hE
 have F2 := fun (W : World) (hb : Below w.heap.size w W) => zto (.slice a1 c.moves.length cap1) c.moves W (h.moves.run hb)
 obtain ⟨q2, hq2⟩ : ∃ q, movesE c.moves = q := ⟨_, rfl⟩
 rw [hq2] at F2 hE
 have F3 := fun (W : World) (hb : Below w.heap.size w W) => zxv (.slice a2 c.parts.length cap2) c.parts W (h.parts.run hb)
 obtain ⟨q3, hq3⟩ : ∃ q, ptsE c.parts = q := ⟨_, rfl⟩
 rw [hq3] at F3 hE
 have F4 := fun (W : World) (_ : Below w.heap.size w W) => zsw c (.slice a1 c.moves.length cap1) (.slice a2 c.parts.length cap2) W hk
 obtain ⟨q4, hq4⟩ : ∃ q, nextE c = q := ⟨_, rfl⟩
 rw [hq4] at F4 hE
 have HE := hid hE
 have K0 := hid F0
 have K1 := hid F1
 have K2 := hid F2
 have K3 := hid F3
 have K4 := hid F4
 clear h hE hn hl hk F0 hq0 F1 hq1 F2 hq2 F3 hq3 F4 hq4
 by_cases p0 : q0 = 0
 · by_cases p1 : q1 = 0
   · by_cases p2 : q2 = 0
     · by_cases p3 : q3 = 0
       · subst p0 p1 p2 p3
         go_enter Tryz.func72, Tryz.ntmps72
         go_wp2_with fail
         refine (K0.out _ bel).mono ?_
         rintro e w1 ⟨rfl, hb1⟩
         have hr0 : RowAt w1 w.heap.size 64 #[.string c.num, .string c.lab, .slice a1 c.moves.length cap1, .slice a2 c.parts.length cap2, .bool c.block, .bool c.mark, .int .i64 c.follow, .string c.link, .int .i64 c.loops] := rwt; obtain ⟨hr0a, hr0b, hr0c, hr0d, hr0e, hr0f⟩ := zaa hr0
         go_wp2_with fail
         refine (K1.out _ bel).mono ?_
         rintro e w2 ⟨rfl, rfl⟩
         go_wp2_with fail
         refine (K2.out _ bel).mono ?_
         rintro e w3 ⟨rfl, hb3⟩
         have hr2 : RowAt w3 w.heap.size 64 #[.string c.num, .string c.lab, .slice a1 c.moves.length cap1, .slice a2 c.parts.length cap2, .bool c.block, .bool c.mark, .int .i64 c.follow, .string c.link, .int .i64 c.loops] := rwt; obtain ⟨hr2a, hr2b, hr2c, hr2d, hr2e, hr2f⟩ := zaa hr2
         go_wp2_with fail
         refine (K3.out _ bel).mono ?_
         rintro e w4 ⟨rfl, hb4⟩
         have hr3 : RowAt w4 w.heap.size 64 #[.string c.num, .string c.lab, .slice a1 c.moves.length cap1, .slice a2 c.parts.length cap2, .bool c.block, .bool c.mark, .int .i64 c.follow, .string c.link, .int .i64 c.loops] := rwt; obtain ⟨hr3a, hr3b, hr3c, hr3d, hr3e, hr3f⟩ := zaa hr3
         have HB4 := hid (And.intro hr3 (show Below w.heap.size w w4 from bel))
         clear hb1 hb3 hb4 hr0 hr0a hr0b hr0c hr0d hr0e hr0f hr2 hr2a hr2b hr2c hr2d hr2e hr2f hr3 hr3a hr3b hr3c hr3d hr3e hr3f
         go_wp2
         go_loopw [7] (fun i wr => ∃ k : Nat, k ≤ c.moves.length ∧ i = .int .i64 k ∧ Hid ((c.moves.take k).any (beyondM c.parts.length) = false) ∧ Hid (RowAt wr w.heap.size 64 #[.string c.num, .string c.lab, .slice a1 c.moves.length cap1, .slice a2 c.parts.length cap2, .bool c.block, .bool c.mark, .int .i64 c.follow, .string c.link, .int .i64 c.loops] ∧ Below w.heap.size w wr)) (fun i _ => c.moves.length - (intOf i).toNat)
         case atStart => exact ⟨0, Nat.zero_le _, rfl, by simp [Hid], HB4⟩
         case round =>
          obtain ⟨k, hk, rfl, hf, hh⟩ := hrel
          obtain ⟨hr, hb0⟩ := hh.out
          obtain ⟨a0, a1', a2', a3, a4, a5⟩ := zaa hr
          by_cases hlt : k < c.moves.length
          · have hlt3 : (k : Int) < (c.moves.length : Int) := by omega
            have hk0 : (0 : Int) ≤ (k : Int) := by omega
            rcases HA.out.moves with ⟨h0, _⟩ | ⟨_, _, b, off, cap', he, hbl, hcr⟩
            · omega
            cases he
            have hc' : ∀ j, j < c.moves.length * 5 → wr.cell? ⟨b, off + j, none⟩ = genC 5 mvA c.moves j := fun j hj => (hb0.cell (p := ⟨b, off + j, none⟩) hbl).trans (hcr j hj)
            obtain ⟨d, hd⟩ : ∃ d, c.moves[k]? = some d := ⟨_, List.getElem?_eq_getElem hlt⟩
            obtain ⟨e0, e1, e2, e3, e4⟩ := zch hc' k d hd
            have HD := hid hd
            have HH := hid (And.intro hr hb0)
            clear hc' hcr hd hh hr hb0
            by_cases hz : (c.parts.length : Int) < d.part
            · have HZ := hid (show beyondM c.parts.length d = true from by simpa [beyondM] using hz)
              go_wp2
              go_quiet (fail)
              go_wp2
              go_ret
              have hany : c.moves.any (beyondM c.parts.length) = true := List.any_eq_true.2 ⟨d, List.mem_of_getElem? HD.out, HZ.out⟩
              exact ⟨zab (by rw [HE.out, hany]; rfl), by have := HH.out.2; exact bel⟩
            have HZ := hid (show beyondM c.parts.length d = false from by simpa [beyondM] using hz)
            go_wp2
            go_quiet (fail)
            go_wp2
            go_roundw
            case rel => exact ⟨k + 1, by omega, by go_num, hid (by rw [zaf HD.out, List.any_append, hf.out]; simp [HZ.out]), hid ⟨HH.out.1.drewN _, by have := HH.out.2; exact bel⟩⟩
            case measure => simp [intOf]; omega
          obtain rfl : k = c.moves.length := by omega
          have hany := hf.out
          rw [List.take_length] at hany
          have HE2 := hid (show cueE c = q4 from by rw [HE.out, hany]; rfl)
          have HH := hid hb0
          clear hany hr hb0 hh
          go_wp2_with fail
          refine (K4.out _ HH.out).mono ?_
          rintro e w5 ⟨rfl, hb5⟩
          go_wp2
          go_ret
          exact ⟨zab HE2.out.symm, HH.out.trans (hb5.mono HH.out.size)⟩
       have p9 : (q3 != 0) = true := by simpa using p3
       subst p0
       subst p1
       subst p2
       go_enter Tryz.func72, Tryz.ntmps72
       go_wp2_with fail
       refine (K0.out _ bel).mono ?_
       rintro e w1 ⟨rfl, hb1⟩
       have hr0 : RowAt w1 w.heap.size 64 #[.string c.num, .string c.lab, .slice a1 c.moves.length cap1, .slice a2 c.parts.length cap2, .bool c.block, .bool c.mark, .int .i64 c.follow, .string c.link, .int .i64 c.loops] := rwt; obtain ⟨hr0a, hr0b, hr0c, hr0d, hr0e, hr0f⟩ := zaa hr0
       go_wp2_with fail
       refine (K1.out _ bel).mono ?_
       rintro e w2 ⟨rfl, rfl⟩
       go_wp2_with fail
       refine (K2.out _ bel).mono ?_
       rintro e w3 ⟨rfl, hb3⟩
       have hr2 : RowAt w3 w.heap.size 64 #[.string c.num, .string c.lab, .slice a1 c.moves.length cap1, .slice a2 c.parts.length cap2, .bool c.block, .bool c.mark, .int .i64 c.follow, .string c.link, .int .i64 c.loops] := rwt; obtain ⟨hr2a, hr2b, hr2c, hr2d, hr2e, hr2f⟩ := zaa hr2
       go_wp2_with fail
       refine (K3.out _ bel).mono ?_
       rintro e w4 ⟨rfl, hb4⟩
       have hr3 : RowAt w4 w.heap.size 64 #[.string c.num, .string c.lab, .slice a1 c.moves.length cap1, .slice a2 c.parts.length cap2, .bool c.block, .bool c.mark, .int .i64 c.follow, .string c.link, .int .i64 c.loops] := rwt; obtain ⟨hr3a, hr3b, hr3c, hr3d, hr3e, hr3f⟩ := zaa hr3
       go_wp2
       go_ret
       exact ⟨zab (by rw [HE.out]; simp [p3]), bel⟩
     have p9 : (q2 != 0) = true := by simpa using p2
     subst p0
     subst p1
     go_enter Tryz.func72, Tryz.ntmps72
     go_wp2_with fail
     refine (K0.out _ bel).mono ?_
     rintro e w1 ⟨rfl, hb1⟩
     have hr0 : RowAt w1 w.heap.size 64 #[.string c.num, .string c.lab, .slice a1 c.moves.length cap1, .slice a2 c.parts.length cap2, .bool c.block, .bool c.mark, .int .i64 c.follow, .string c.link, .int .i64 c.loops] := rwt; obtain ⟨hr0a, hr0b, hr0c, hr0d, hr0e, hr0f⟩ := zaa hr0
     go_wp2_with fail
     refine (K1.out _ bel).mono ?_
     rintro e w2 ⟨rfl, rfl⟩
     go_wp2_with fail
     refine (K2.out _ bel).mono ?_
     rintro e w3 ⟨rfl, hb3⟩
     have hr2 : RowAt w3 w.heap.size 64 #[.string c.num, .string c.lab, .slice a1 c.moves.length cap1, .slice a2 c.parts.length cap2, .bool c.block, .bool c.mark, .int .i64 c.follow, .string c.link, .int .i64 c.loops] := rwt; obtain ⟨hr2a, hr2b, hr2c, hr2d, hr2e, hr2f⟩ := zaa hr2
     go_wp2
     go_ret
     exact ⟨zab (by rw [HE.out]; simp [p2]), bel⟩
   have p9 : (q1 != 0) = true := by simpa using p1
   subst p0
   go_enter Tryz.func72, Tryz.ntmps72
   go_wp2_with fail
   refine (K0.out _ bel).mono ?_
   rintro e w1 ⟨rfl, hb1⟩
   have hr0 : RowAt w1 w.heap.size 64 #[.string c.num, .string c.lab, .slice a1 c.moves.length cap1, .slice a2 c.parts.length cap2, .bool c.block, .bool c.mark, .int .i64 c.follow, .string c.link, .int .i64 c.loops] := rwt; obtain ⟨hr0a, hr0b, hr0c, hr0d, hr0e, hr0f⟩ := zaa hr0
   go_wp2_with fail
   refine (K1.out _ bel).mono ?_
   rintro e w2 ⟨rfl, rfl⟩
   go_wp2
   go_ret
   exact ⟨zab (by rw [HE.out]; simp [p1]), bel⟩
 have p9 : (q0 != 0) = true := by simpa using p0
 go_enter Tryz.func72, Tryz.ntmps72
 go_wp2_with fail
 refine (K0.out _ bel).mono ?_
 rintro e w1 ⟨rfl, hb1⟩
 have hr0 : RowAt w1 w.heap.size 64 #[.string c.num, .string c.lab, .slice a1 c.moves.length cap1, .slice a2 c.parts.length cap2, .bool c.block, .bool c.mark, .int .i64 c.follow, .string c.link, .int .i64 c.loops] := rwt; obtain ⟨hr0a, hr0b, hr0c, hr0d, hr0e, hr0f⟩ := zaa hr0
 go_wp2
 go_ret
 exact ⟨zab (by rw [HE.out]; simp [p0]), bel⟩
end Go.Proofs.YtjeigphhepngmaaGreatDoor
