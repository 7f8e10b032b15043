/- -/
import Derived.Test.YtjeigphhepngmaaGreatDoorOc
namespace Go.Proofs.YtjeigphhepngmaaGreatDoor
open Go.RowKit
open Go.Lib (hid)
set_option maxHeartbeats 8000000
set_option linter.unusedSimpArgs false
set_option maxRecDepth 100000
theorem zmg (pd : ProfD × Value) (v : Value) (cs : List (List Pt)) (w : World) (hy : RProf w pd) (hv : RL 1 curveA RCurve w v cs) : Calls Tryz.prog 278 #[.agg (profA pd), v] w fun e w' => e = .returned (.int .i64 (profE cs pd.1)) ∧ Below w.heap.size w w' := by
 obtain ⟨fa, fcap, hfv⟩ := hy.1.shape
 obtain ⟨a, cap, rfl⟩ := hv.shape
 have hml := hv.few
 have hfl := hy.1.few
 have hb0 : Below w.heap.size w (w.alloc (.cells (profA pd) 89)) := bel
 have r0 := RowAt.new w 89 (profA pd)
 have A := hid (zhw (.slice a cs.length cap) cs (w.alloc (.cells (profA pd) 89)) (hv.run zaz hb0))
 have hs := hy.2.2
 have B := hid (fun (W : World) => zf1 pd.1.name W hs)
 have D := hid (fun (W : World) (hb : Below w.heap.size w W) (k : Nat) (d : FeatD) (hd : pd.1.feats[k]? = some d) => zo2 pd cs.length k d W (zap _ _ _ hb hy) hd)
 have R0 := hid (And.intro r0 hb0)
 obtain ⟨r, hr⟩ : ∃ r, profE cs pd.1 = r := ⟨_, rfl⟩
 rw [hr]
 have HR := hid hr
 obtain ⟨x, hx⟩ : ∃ x, curvesE cs = x := ⟨_, rfl⟩
 rw [hx] at A
 have HX := hid hx
 have hpd : profA pd = #[.string pd.1.name, .int .i64 pd.1.foot, .int .i64 pd.1.watts, .slice fa pd.1.feats.length fcap] := by rw [← hfv]; rfl
 rw [hpd] at A R0 D ⊢
 clear hv hy r0 hb0 hpd hfv hs hr hx
 obtain ⟨⟨name, foot, watts, l⟩, fv⟩ := pd
 simp only at A B D R0 HR hfl ⊢
 obtain ⟨b, hb⟩ : ∃ b, nameB name = b := ⟨_, rfl⟩
 rw [hb] at B
 have HB := hid hb
 clear hb
 by_cases hx0 : x = 0
 · subst hx0
   cases b with
   | false =>
     have hq := hid (show 8 = r from by have h := HR.out; unfold profE at h; dsimp only at h; rw [if_neg (show ¬ (curvesE cs ≠ 0) from by simp [HX.out]), if_pos HB.out] at h; exact h)
     go_enter Tryz.func278, Tryz.ntmps278
     go_wp2_with fail
     refine A.out.mono ?_
     rintro e w1 ⟨rfl, hb1⟩
     have hbw := hid (R0.out.2.trans (hb1.mono R0.out.2.size))
     obtain ⟨x1, x2, x3, x4, x5, x6⟩ := zaa (R0.out.1.run hb1)
     have x7 := x1 0
     simp at x7
     clear hb1 A x1
     go_wp2_with fail
     refine (B.out _).mono ?_
     rintro e w2 ⟨rfl, rfl⟩
     go_wp2
     go_ret
     exact ⟨zab hq.out, hbw.out⟩
   | true =>
     by_cases c3 : foot < 1
     · skip
       go_enter Tryz.func278, Tryz.ntmps278
       go_wp2_with fail
       refine A.out.mono ?_
       rintro e w1 ⟨rfl, hb1⟩
       have hbw := hid (R0.out.2.trans (hb1.mono R0.out.2.size))
       have R1 := hid (R0.out.1.run hb1)
       obtain ⟨x1, x2, x3, x4, x5, x6⟩ := zaa R1.out
       have x7 := x1 0
       simp at x7
       clear hb1 A
       go_wp2_with fail
       refine (B.out _).mono ?_
       rintro e w2 ⟨rfl, rfl⟩
       go_wp2
       go_ret
       exact ⟨zab (by have h := HR.out; unfold profE at h; dsimp only at h; rw [if_neg (show ¬ (curvesE cs ≠ 0) from by simp [HX.out]), if_neg (show ¬ (nameB name = false) from by simp [HB.out]), if_pos (show (foot < 1 ∨ 512 < foot ∨ watts < 0 ∨ 1048576 < watts) from by omega)] at h; exact h), hbw.out⟩
     skip
     by_cases c4 : 512 < foot
     · skip
       go_enter Tryz.func278, Tryz.ntmps278
       go_wp2_with fail
       refine A.out.mono ?_
       rintro e w1 ⟨rfl, hb1⟩
       have hbw := hid (R0.out.2.trans (hb1.mono R0.out.2.size))
       have R1 := hid (R0.out.1.run hb1)
       obtain ⟨x1, x2, x3, x4, x5, x6⟩ := zaa R1.out
       have x7 := x1 0
       simp at x7
       clear hb1 A
       go_wp2_with fail
       refine (B.out _).mono ?_
       rintro e w2 ⟨rfl, rfl⟩
       go_wp2
       go_ret
       exact ⟨zab (by have h := HR.out; unfold profE at h; dsimp only at h; rw [if_neg (show ¬ (curvesE cs ≠ 0) from by simp [HX.out]), if_neg (show ¬ (nameB name = false) from by simp [HB.out]), if_pos (show (foot < 1 ∨ 512 < foot ∨ watts < 0 ∨ 1048576 < watts) from by omega)] at h; exact h), hbw.out⟩
     skip
     by_cases c5 : watts < 0
     · skip
       go_enter Tryz.func278, Tryz.ntmps278
       go_wp2_with fail
       refine A.out.mono ?_
       rintro e w1 ⟨rfl, hb1⟩
       have hbw := hid (R0.out.2.trans (hb1.mono R0.out.2.size))
       have R1 := hid (R0.out.1.run hb1)
       obtain ⟨x1, x2, x3, x4, x5, x6⟩ := zaa R1.out
       have x7 := x1 0
       simp at x7
       clear hb1 A
       go_wp2_with fail
       refine (B.out _).mono ?_
       rintro e w2 ⟨rfl, rfl⟩
       go_wp2
       go_ret
       exact ⟨zab (by have h := HR.out; unfold profE at h; dsimp only at h; rw [if_neg (show ¬ (curvesE cs ≠ 0) from by simp [HX.out]), if_neg (show ¬ (nameB name = false) from by simp [HB.out]), if_pos (show (foot < 1 ∨ 512 < foot ∨ watts < 0 ∨ 1048576 < watts) from by omega)] at h; exact h), hbw.out⟩
     skip
     by_cases c6 : 1048576 < watts
     · skip
       go_enter Tryz.func278, Tryz.ntmps278
       go_wp2_with fail
       refine A.out.mono ?_
       rintro e w1 ⟨rfl, hb1⟩
       have hbw := hid (R0.out.2.trans (hb1.mono R0.out.2.size))
       have R1 := hid (R0.out.1.run hb1)
       obtain ⟨x1, x2, x3, x4, x5, x6⟩ := zaa R1.out
       have x7 := x1 0
       simp at x7
       clear hb1 A
       go_wp2_with fail
       refine (B.out _).mono ?_
       rintro e w2 ⟨rfl, rfl⟩
       go_wp2
       go_ret
       exact ⟨zab (by have h := HR.out; unfold profE at h; dsimp only at h; rw [if_neg (show ¬ (curvesE cs ≠ 0) from by simp [HX.out]), if_neg (show ¬ (nameB name = false) from by simp [HB.out]), if_pos (show (foot < 1 ∨ 512 < foot ∨ watts < 0 ∨ 1048576 < watts) from by omega)] at h; exact h), hbw.out⟩
     skip
     by_cases h4 : 16 < l.length
     · have h5 : (16 : Int) < (l.length : Int) := by omega
       go_enter Tryz.func278, Tryz.ntmps278
       go_wp2_with fail
       refine A.out.mono ?_
       rintro e w1 ⟨rfl, hb1⟩
       have hbw := hid (R0.out.2.trans (hb1.mono R0.out.2.size))
       have R1 := hid (R0.out.1.run hb1)
       obtain ⟨x1, x2, x3, x4, x5, x6⟩ := zaa R1.out
       have x7 := x1 0
       simp at x7
       clear hb1 A
       go_wp2_with fail
       refine (B.out _).mono ?_
       rintro e w2 ⟨rfl, rfl⟩
       go_wp2
       go_ret
       exact ⟨zab (by have h := HR.out; unfold profE at h; dsimp only at h; rw [if_neg (show ¬ (curvesE cs ≠ 0) from by simp [HX.out]), if_neg (show ¬ (nameB name = false) from by simp [HB.out]), if_neg (show ¬ (foot < 1 ∨ 512 < foot ∨ watts < 0 ∨ 1048576 < watts) from by omega), if_pos h4] at h; exact h), hbw.out⟩
     have h5 : ¬ (16 : Int) < (l.length : Int) := by omega
     have hq := hid (show allB (featE foot cs.length) l = r from by have h := HR.out; unfold profE at h; dsimp only at h; rw [if_neg (show ¬ (curvesE cs ≠ 0) from by simp [HX.out]), if_neg (show ¬ (nameB name = false) from by simp [HB.out]), if_neg (show ¬ (foot < 1 ∨ 512 < foot ∨ watts < 0 ∨ 1048576 < watts) from by omega), if_neg h4] at h; exact h)
     clear h4
     go_enter Tryz.func278, Tryz.ntmps278
     go_wp2_with fail
     refine A.out.mono ?_
     rintro e w1 ⟨rfl, hb1⟩
     have hbw := hid (R0.out.2.trans (hb1.mono R0.out.2.size))
     have R1 := hid (R0.out.1.run hb1)
     obtain ⟨x1, x2, x3, x4, x5, x6⟩ := zaa R1.out
     have x7 := x1 0
     simp at x7
     clear hb1 A
     go_wp2_with fail
     refine (B.out _).mono ?_
     rintro e w2 ⟨rfl, rfl⟩
     go_wp2
     go_loopw [6] (fun i wr => ∃ k : Nat, i = .int .i64 k ∧ Hid (LoopB (featE foot cs.length) l k ∧ RowAt wr w.heap.size 89 #[.string name, .int .i64 foot, .int .i64 watts, .slice fa l.length fcap] ∧ Below w.heap.size w wr)) (fun i _ => l.length - (intOf i).toNat)
     case atStart => exact ⟨0, rfl, hid ⟨zam _ _, R1.out, hbw.out⟩⟩
     case round =>
       obtain ⟨k, rfl, hh⟩ := hrel
       have hk := hh.out.1.2.1
       have hbs := hh.out.2.2.size
       obtain ⟨y1, y2, y3, y4, y5, y6⟩ := zaa hh.out.2.1
       by_cases hlt : k < l.length
       · have hlt3 : (k : Int) < (l.length : Int) := by omega
         obtain ⟨d, hd⟩ : ∃ d, l[k]? = some d := ⟨_, List.getElem?_eq_getElem hlt⟩
         have C := D.out _ hh.out.2.2 k d hd
         obtain ⟨z, hz⟩ : ∃ z, featE foot cs.length (l.take k) d = z := ⟨_, rfl⟩
         rw [hz] at C
         have HC := hid C
         have HZ := hid hz
         have HD := hid hd
         clear hd C hz hk
         by_cases hz0 : z = 0
         · subst hz0
           have hgo := hid (zah hh.out.1 HD.out HZ.out)
           go_wp2_with fail
           refine HC.out.mono ?_
           rintro e w1 ⟨rfl, hb1⟩
           have hnx := hid (And.intro (hh.out.2.1.run hb1) (hh.out.2.2.trans (hb1.mono hbs)))
           go_wp2
           go_roundw
           case rel => exact ⟨k + 1, by go_num, hid ⟨hgo.out, hnx.out⟩⟩
           case measure => simp [intOf]; omega
         have hz1 : (z == 0) = false := by simpa using hz0
         have hst := hid (zad hh.out.1 HD.out HZ.out hz0)
         go_wp2_with fail
         refine HC.out.mono ?_
         rintro e w1 ⟨rfl, hb1⟩
         have hbe := hid (hh.out.2.2.trans (hb1.mono hbs))
         go_wp2
         go_ret
         exact ⟨zab (by rw [← hq.out, hst.out]), hbe.out⟩
       obtain rfl : k = l.length := by omega
       have hen := hid (zan hh.out.1)
       have hbe := hid hh.out.2.2
       go_wp2
       go_ret
       exact ⟨zab (by rw [← hq.out, hen.out]), hbe.out⟩
 have hx1 : (x == 0) = false := by simpa using hx0
 have hq := hid (show x = r from by have h := HR.out; unfold profE at h; rw [HX.out, if_pos hx0] at h; exact h)
 go_enter Tryz.func278, Tryz.ntmps278
 go_wp2_with fail
 refine A.out.mono ?_
 rintro e w1 ⟨rfl, hb1⟩
 have hbw := hid (R0.out.2.trans (hb1.mono R0.out.2.size))
 go_wp2
 go_ret
 exact ⟨zab hq.out, hbw.out⟩
theorem zmh (vp vc : Value) (ps : List ProfD) (cs : List (List Pt)) (w : World) (hp : RL 4 profA RProf w vp ps) (hc : RL 1 curveA RCurve w vc cs) :
   Calls Tryz.prog 210 #[vp, vc] w fun e w' => e = .returned (.int .i64 (profsE cs ps)) ∧ Below w.heap.size w w' := by
 obtain ⟨ca, ccap, rfl⟩ := hc.shape
 obtain ⟨pa, pcap, rfl⟩ := hp.shape
 have hcl := hc.few
 have hpl := hp.few
 by_cases h4 : 32 < ps.length
 · have h5 : (32 : Int) < (ps.length : Int) := by omega
   rw [profsE, if_pos h4]
   clear h4 hp hc
   go_enter Tryz.func210, Tryz.ntmps210
   go_wp2
   go_ret
   exact ⟨rfl, bel⟩
 have h5 : ¬ (32 : Int) < (ps.length : Int) := by omega
 rw [profsE, if_neg h4]
 have HC := hid hc
 have HV := hid hp
 clear hc hp h4
 go_enter Tryz.func210, Tryz.ntmps210
 go_wp2
 go_loopw [5] (fun i wr => ∃ k : Nat, i = .int .i64 k ∧ Hid (LoopB (profAt cs) ps k ∧ Below w.heap.size w wr)) (fun i _ => ps.length - (intOf i).toNat)
 case atStart => exact ⟨0, rfl, hid ⟨zam _ _, Below.refl _ _⟩⟩
 case round =>
   obtain ⟨k, rfl, hh⟩ := hrel
   have hk := hh.out.1.2.1
   have hbs := hh.out.2.size
   by_cases hlt : k < ps.length
   · have hlt3 : (k : Int) < (ps.length : Int) := by omega
     obtain ⟨d, hd⟩ : ∃ d, ps[k]? = some d := ⟨_, List.getElem?_eq_getElem hlt⟩
     obtain ⟨y, g, off, cap', he, hg, hcc⟩ := HV.out.at_ (by decide) zap hd
     cases he
     obtain ⟨hcl2, hrf⟩ := hcc wr hh.out.2
     have HE := hid (fun (W : World) (hb : Below wr.heap.size wr W) => (hcc W (hh.out.2.trans (hb.mono hbs))).1 0 (by decide))
     have hys : ∃ a c, y = .slice a d.feats.length c := hrf.1.shape
     obtain ⟨ya, yc, rfl⟩ := hys
     have e0 : wr.cell? ⟨g, off + k * 4, none⟩ = some (.string d.name) := hcl2 0 (by decide)
     have e1 : wr.cell? ⟨g, off + k * 4 + 1, none⟩ = some (.int .i64 d.foot) := hcl2 1 (by decide)
     have e2 : wr.cell? ⟨g, off + k * 4 + 2, none⟩ = some (.int .i64 d.watts) := hcl2 2 (by decide)
     have e3 : wr.cell? ⟨g, off + k * 4 + 3, none⟩ = some (.slice ya d.feats.length yc) := hcl2 3 (by decide)
     have hgr : g < wr.heap.size := by omega
     have HD := hid hd
     have C := zmg (d, .slice ya d.feats.length yc) (.slice ca cs.length ccap) cs wr hrf (HC.out.run zaz hh.out.2)
     obtain ⟨x, hx⟩ : ∃ x, profE cs d = x := ⟨_, rfl⟩
     simp only [hx, profA] at C
     have HCC := hid C
     have HX := hid hx
     clear hd hcc hk hx hcl2 hrf C
     by_cases hx0 : x = 0
     · subst hx0
       go_wp2_with fail
       refine HCC.out.mono ?_
       rintro e w1 ⟨rfl, hb1⟩
       have HB1 := hid hb1
       clear e0 e1 e2 e3 hb1 HCC
       go_wp2
       go_loopw [7] (fun i wz => ∃ j : Nat, j ≤ k ∧ i = .int .i64 j ∧ Hid (((ps.take j).any fun q => decide (q.name = d.name)) = false ∧ Below wr.heap.size wr wz)) (fun i _ => k - (intOf i).toNat)
       case atStart => exact ⟨0, Nat.zero_le _, rfl, hid ⟨rfl, HB1.out⟩⟩
       case round =>
        obtain ⟨j, hj, rfl, hz⟩ := hrel
        have hzs := hz.out.2.size
        have HZB := hid (hh.out.2.trans (hz.out.2.mono hbs))
        by_cases hjk : j < k
        · have hjk3 : (j : Int) < (k : Int) := by omega
          have hjk4 : j < ps.length := by omega
          have hjk5 : (j : Int) < (ps.length : Int) := by omega
          obtain ⟨q, hq⟩ : ∃ q, ps[j]? = some q := ⟨_, List.getElem?_eq_getElem hjk4⟩
          obtain ⟨y2, g2, off2, cap2, he2, -, hc2⟩ := HV.out.at_ (by decide) zap hq
          cases he2
          have f0 := (hc2 _ HZB.out).1 0 (by decide)
          have f1 := HE.out _ hz.out.2
          simp only [profA, Nat.add_zero] at f0 f1
          have hse := zec q.name d.name
          have HQ := hid hq
          clear hc2 hq
          by_cases hqd : q.name = d.name
          · have hse1 : (q.name.toList == d.name.toList) = true := by rw [hse]; simpa using hqd
            have hst := hid (zad hh.out.1 HD.out (show profAt cs (ps.take k) d = 7 from by rw [profAt, HX.out, if_neg (by simp), if_pos (by rw [List.any_eq_true]; exact ⟨q, List.mem_of_getElem? (by rw [List.getElem?_take_of_lt hjk]; exact HQ.out), by simpa using hqd⟩)]) (by decide))
            clear hse hqd
            go_wp2
            go_quiet (fail)
            go_wp2
            go_ret
            exact ⟨zab hst.out.symm, by have := HZB.out; exact bel⟩
          have hse1 : (q.name.toList == d.name.toList) = false := by rw [hse]; simpa using hqd
          have hnx := hid (show ((ps.take (j + 1)).any fun q => decide (q.name = d.name)) = false from by rw [zaf HQ.out, List.any_append, hz.out.1]; simpa using hqd)
          clear hse hqd
          go_wp2
          go_quiet (fail)
          go_wp2
          go_roundw
          case rel => exact ⟨j + 1, by omega, by go_num, hid ⟨hnx.out, by have := hz.out.2; exact bel⟩⟩
          case measure => simp [intOf]; omega
        obtain rfl : j = k := by omega
        have hgo := hid (zah hh.out.1 HD.out (by rw [profAt, HX.out, if_neg (by simp), if_neg (by rw [hz.out.1]; decide)]))
        go_wp2
        go_roundw
        case rel => exact ⟨j + 1, by go_num, hid ⟨hgo.out, HZB.out⟩⟩
        case measure => simp [intOf]; omega
     have hx1 : (x == 0) = false := by simpa using hx0
     have hst := hid (zad hh.out.1 HD.out (by rw [profAt, HX.out]; exact if_pos hx0) hx0)
     go_wp2_with fail
     refine HCC.out.mono ?_
     rintro e w1 ⟨rfl, hb1⟩
     have hbe := hid (hh.out.2.trans (hb1.mono hbs))
     go_wp2
     go_ret
     exact ⟨zab hst.out.symm, hbe.out⟩
   obtain rfl : k = ps.length := by omega
   have hen := hid (zan hh.out.1)
   have hbe := hid hh.out.2
   go_wp2
   go_ret
   exact ⟨zab hen.out.symm, hbe.out⟩
theorem zqa {α : Type} {S : Nat} {f : α → Array Value} (hS : 0 < S) (hf : ∀ x, (f x).size = S) {w : World} {b T cap : Nat} {cs : Array Value} (l : List α) (h : RowAt w b T cs) (hl : cs.toList = genL f l) (h0 : l.length ≠ 0) (h1 : l.length ≤ 1000) : ListAt S f w (.slice (some ⟨b, 0, none⟩) l.length cap) l := by
 refine .inr ⟨Nat.pos_of_ne_zero h0, by omega, b, 0, cap, rfl, lt_of_block h, fun j _ => ?_⟩
 rw [Nat.zero_add, (zaa h).1 j, ← Array.getElem?_toList, hl]
 exact zet (f := f) (S := S) hS hf l j
def okP (p : Pt) : Bool := decide (1 ≤ p.1 ∧ p.1 ≤ p.2)
def pairsL (d : FixD) : List Pt := [(d.ch, 999), (d.part, 64), (d.uni, 8), (d.addr, 512), (d.phase, 3)]
theorem zwe (d : FixD) : rangedB d = (pairsL d).all okP := by
 rw [Bool.eq_iff_iff]
 simp [rangedB, pairsL, okP, and_assoc]
theorem zv2 (d : FixD) (w : World) : Calls Tryz.prog 344 #[.agg (fixA d)] w fun e w' => e = .returned (.bool (rangedB d)) ∧ Below w.heap.size w w' := by
 rw [zwe]
 have hlen : (pairsL d).length = 5 := rfl
 have HL : ListAt 2 ptA ((w.alloc (.cells (fixA d) 173)).alloc (.cells (genL ptA (pairsL d)).toArray 425)) (.slice (some ⟨w.heap.size + 1, 0, none⟩) 5 5) (pairsL d) := zqa (S := 2) (f := ptA) (by decide) (fun _ => rfl) (pairsL d) (RowAt.mk (T := 425) (by simp) rfl) rfl (by simp [hlen]) (by simp [hlen])
 have HV := hid HL
 have B0 := hid (show Below w.heap.size w ((w.alloc (.cells (fixA d) 173)).alloc (.cells (genL ptA (pairsL d)).toArray 425)) from bel)
 have HP : pairsL d = [(d.ch, 999), (d.part, 64), (d.uni, 8), (d.addr, 512), (d.phase, 3)] := rfl
 obtain ⟨ps, hps⟩ : ∃ ps, pairsL d = ps := ⟨_, rfl⟩
 have HH := hid hps
 obtain ⟨ch, part, prof, uni, addr, phase, cable⟩ := d
 simp only [fixA]
 clear HL HP
 go_enter Tryz.func344, Tryz.ntmps344
 go_wp2
 go_loopw [22] (fun i wr => ∃ k : Nat, k ≤ 5 ∧ i = .int .i64 k ∧ Hid ((ps.take k).all okP = true ∧ ListAt 2 ptA wr (.slice (some ⟨w.heap.size + 1, 0, none⟩) 5 5) ps ∧ Below w.heap.size w wr)) (fun i _ => 5 - (intOf i).toNat)
 case atStart => exact ⟨0, by omega, rfl, hid ⟨rfl, by rw [← HH.out]; exact HV.out, B0.out⟩⟩
 case round =>
  obtain ⟨k, hk, rfl, hh⟩ := hrel
  have hbs := hh.out.2.2.size
  have hln : ps.length = 5 := by rw [← HH.out]; exact hlen
  by_cases hlt : k < 5
  · have hlt3 : (k : Int) < 5 := by omega
    obtain ⟨q, hq⟩ : ∃ q, ps[k]? = some q := ⟨_, List.getElem?_eq_getElem (by omega)⟩
    have hv := hh.out.2.1
    obtain ⟨g, off, cap', he, hg, hc⟩ := hv.at_ (by decide) hq
    have he2 : g = w.heap.size + 1 ∧ off = 0 := by
      simp only [Value.slice.injEq, Option.some.injEq, Addr.mk.injEq] at he
      exact ⟨he.1.1.symm, he.1.2.1.symm⟩
    obtain ⟨rfl, rfl⟩ := he2
    have e0 := hc _ (Below.refl _ _) 0 (by decide)
    have e1 := hc _ (Below.refl _ _) 1 (by decide)
    simp only [ptA, Nat.zero_add, Nat.add_zero] at e0 e1
    have HQ := hid hq
    have hnx := hid (fun (h : okP q = true) => (show (ps.take (k + 1)).all okP = true from by rw [zaf HQ.out, List.all_append, hh.out.1]; simpa using h))
    have hst := hid (fun (h : okP q = false) => (show ps.all okP = false from by
      cases hc : ps.all okP with
      | false => rfl
      | true => rw [List.all_eq_true.1 hc q (List.mem_of_getElem? HQ.out)] at h; cases h))
    have hgn : ¬ w.heap.size + 1 = wr.heap.size := by omega
    clear hq hc hv he
    obtain ⟨x, y⟩ := q
    simp only at e0 e1
    by_cases c0 : x < 1
    · have hs := hid (hst.out (by simp [okP]; omega))
      go_wp2
      go_ret
      exact ⟨zac (by first | rw [hs.out] | rw [HH.out, hs.out]), by have := hh.out.2.2; exact bel⟩
    by_cases c1 : y < x
    · have hs := hid (hst.out (by simp [okP]; omega))
      go_wp2
      go_ret
      exact ⟨zac (by first | rw [hs.out] | rw [HH.out, hs.out]), by have := hh.out.2.2; exact bel⟩
    have hn := hid (hnx.out (by simp [okP]; omega))
    have hb9 := hid (fun (o : Obj) => (show Below wr.heap.size wr (wr.alloc o) from bel))
    go_wp2
    go_roundw
    case rel => exact ⟨k + 1, by omega, by go_num, hid ⟨hn.out, hh.out.2.1.run (hb9.out _), hh.out.2.2.trans ((hb9.out _).mono hbs)⟩⟩
    case measure => simp [intOf]; omega
  obtain rfl : k = 5 := by omega
  have hen := hid (show ps.all okP = true from by have := hh.out.1; rwa [← hln, List.take_length] at this)
  go_wp2
  go_ret
  exact ⟨zac (by first | rw [hen.out] | rw [HH.out, hen.out]), hh.out.2.2⟩
theorem zwi (d : FixD) (w : World) : Calls Tryz.prog 324 #[.agg (fixA d)] w fun e w' => e = .returned (.int .i64 (if rangedB d = true then 0 else 2)) ∧ Below w.heap.size w w' := by
 obtain ⟨r, hr⟩ : ∃ r, (if rangedB d = true then (0 : Int) else 2) = r := ⟨_, rfl⟩
 rw [hr]
 have HR := hid hr
 clear hr
 obtain ⟨ch, part, prof, uni, addr, phase, cable⟩ := d
 simp only [fixA]
 by_cases c0 : ch < 1
 · skip
   go_enter Tryz.func324, Tryz.ntmps324
   go_wp2
   go_ret
   exact ⟨zab (by have h := HR.out; simp only [rangedB, decide_eq_true_eq] at h; rw [if_neg (by omega)] at h; exact h), bel⟩
 by_cases c1 : 999 < ch
 · skip
   go_enter Tryz.func324, Tryz.ntmps324
   go_wp2
   go_ret
   exact ⟨zab (by have h := HR.out; simp only [rangedB, decide_eq_true_eq] at h; rw [if_neg (by omega)] at h; exact h), bel⟩
 by_cases c2 : part < 1
 · skip
   go_enter Tryz.func324, Tryz.ntmps324
   go_wp2
   go_ret
   exact ⟨zab (by have h := HR.out; simp only [rangedB, decide_eq_true_eq] at h; rw [if_neg (by omega)] at h; exact h), bel⟩
 by_cases c3 : 64 < part
 · skip
   go_enter Tryz.func324, Tryz.ntmps324
   go_wp2
   go_ret
   exact ⟨zab (by have h := HR.out; simp only [rangedB, decide_eq_true_eq] at h; rw [if_neg (by omega)] at h; exact h), bel⟩
 by_cases c4 : uni < 1
 · skip
   go_enter Tryz.func324, Tryz.ntmps324
   go_wp2
   go_ret
   exact ⟨zab (by have h := HR.out; simp only [rangedB, decide_eq_true_eq] at h; rw [if_neg (by omega)] at h; exact h), bel⟩
 by_cases c5 : 8 < uni
 · skip
   go_enter Tryz.func324, Tryz.ntmps324
   go_wp2
   go_ret
   exact ⟨zab (by have h := HR.out; simp only [rangedB, decide_eq_true_eq] at h; rw [if_neg (by omega)] at h; exact h), bel⟩
 by_cases c6 : addr < 1
 · skip
   go_enter Tryz.func324, Tryz.ntmps324
   go_wp2
   go_ret
   exact ⟨zab (by have h := HR.out; simp only [rangedB, decide_eq_true_eq] at h; rw [if_neg (by omega)] at h; exact h), bel⟩
 by_cases c7 : 512 < addr
 · skip
   go_enter Tryz.func324, Tryz.ntmps324
   go_wp2
   go_ret
   exact ⟨zab (by have h := HR.out; simp only [rangedB, decide_eq_true_eq] at h; rw [if_neg (by omega)] at h; exact h), bel⟩
 by_cases c8 : phase < 1
 · skip
   go_enter Tryz.func324, Tryz.ntmps324
   go_wp2
   go_ret
   exact ⟨zab (by have h := HR.out; simp only [rangedB, decide_eq_true_eq] at h; rw [if_neg (by omega)] at h; exact h), bel⟩
 by_cases c9 : 3 < phase
 · skip
   go_enter Tryz.func324, Tryz.ntmps324
   go_wp2
   go_ret
   exact ⟨zab (by have h := HR.out; simp only [rangedB, decide_eq_true_eq] at h; rw [if_neg (by omega)] at h; exact h), bel⟩
 go_enter Tryz.func324, Tryz.ntmps324
 go_wp2
 go_ret
 exact ⟨zab (by have h := HR.out; simp only [rangedB, decide_eq_true_eq] at h; rw [if_pos (by omega)] at h; exact h), bel⟩
def ProfAt (ps : List ProfD) (s : ByteArray) (n : Int) : Prop := (n < 0 ∧ profOf ps s = none) ∨ ∃ (j : Nat) (q : ProfD), n = j ∧ ps[j]? = some q ∧ profOf ps s = some q
theorem zps {ps : List ProfD} {s : ByteArray} {k : Nat} {d : ProfD} (hd : ps[k]? = some d) (hf : ((ps.take k).any fun q => decide (q.name = s)) = false) (h : d.name = s) : profOf ps s = some d := by
 have e : ps = ps.take k ++ d :: ps.drop (k + 1) := by
  have := List.take_append_drop k ps
  rw [List.drop_eq_getElem?_toList_append, hd] at this
  simpa using this.symm
 unfold profOf
 rw [e, List.find?_append, List.find?_eq_none.2 (fun x hx => by
  intro hc
  rw [List.any_eq_false] at hf
  exact hf x hx hc)]
 simp [h]
theorem zws {ps : List ProfD} {s : ByteArray} (hf : (ps.any fun q => decide (q.name = s)) = false) : profOf ps s = none := by
 unfold profOf
 rw [List.find?_eq_none]
 intro x hx hc
 rw [List.any_eq_false] at hf
 exact hf x hx hc
theorem zhg (v : Value) (l : List ProfD) (c : ByteArray) (w : World) (hv : RL 4 profA RProf w v l) :
  Calls Tryz.prog 325 #[v, .string c] w fun e w' => (∃ n, e = .returned (.int .i64 n) ∧ ProfAt l c n) ∧ w = w' := by
 obtain ⟨a, cap, rfl⟩ := hv.shape
 have hml := hv.few
 have HV := hid hv
 clear hv
 go_enter Tryz.func325, Tryz.ntmps325
 go_wp2
 go_loopw [5] (fun i wr => ∃ k : Nat, k ≤ l.length ∧ i = .int .i64 k ∧ Hid ((l.take k).any (fun q => decide (q.name = c)) = false) ∧ w = wr) (fun i _ => l.length - (intOf i).toNat)
 case atStart => exact ⟨0, Nat.zero_le _, rfl, hid rfl, rfl⟩
 case round =>
  obtain ⟨k, hk, rfl, hf, rfl⟩ := hrel
  by_cases hlt : k < l.length
  · have hlt3 : (k : Int) < (l.length : Int) := by omega
    obtain ⟨d, hd⟩ : ∃ d, l[k]? = some d := ⟨_, List.getElem?_eq_getElem hlt⟩
    obtain ⟨y, g, off, cap', he, hg, hc⟩ := HV.out.at_ (by decide) zap hd
    cases he
    have e0 : w.cell? ⟨g, off + k * 4, none⟩ = some (.string d.name) := (hc w (Below.refl _ _)).1 0 (by decide)
    have HD := hid hd
    have hse := zec d.name c
    clear hd hc
    by_cases hq : d.name = c
    · have hse1 : (d.name.toList == c.toList) = true := by rw [hse]; simpa using hq
      have ha := hid (zps HD.out hf.out hq)
      clear hse hq
      go_wp2
      go_ret
      exact ⟨⟨(k : Int), rfl, .inr ⟨k, d, rfl, HD.out, ha.out⟩⟩, rfl⟩
    have hse1 : (d.name.toList == c.toList) = false := by rw [hse]; simpa using hq
    have hnx := hid (show (l.take (k + 1)).any (fun q => decide (q.name = c)) = false from by rw [zaf HD.out, List.any_append, hf.out]; simpa using hq)
    clear hse hq
    go_wp2
    go_roundw
    case rel => exact ⟨k + 1, by omega, by go_num, hnx, by first | rfl | trivial⟩
    case measure => simp [intOf]; omega
  obtain rfl : k = l.length := by omega
  have hno := hid (zws (show l.any (fun q => decide (q.name = c)) = false from by have := hf.out; rwa [List.take_length] at this))
  go_wp2
  go_ret
  exact ⟨⟨-1, rfl, .inl ⟨by decide, hno.out⟩⟩, rfl⟩
theorem zg9 (v : Value) (l : List ProfD) (d : FixD) (q : ProfD) (w : World) (hv : RL 4 profA RProf w v l) (hq : profOf l d.prof = some q) :
  Calls Tryz.prog 326 #[v, .agg (fixA d)] w fun e w' => e = .returned (.int .i64 q.foot) ∧ Below w.heap.size w w' := by
 have hb0 : Below w.heap.size w (w.alloc (.cells (fixA d) 173)) := bel
 have C := hid (zhg v l d.prof _ (hv.run zap hb0))
 have HV := hid (hv.run zap hb0)
 obtain ⟨a, cap, rfl⟩ := hv.shape
 have hml := hv.few
 have HQ := hid hq
 clear hv hq hb0
 obtain ⟨ch, part, prof, uni, addr, phase, cable⟩ := d
 simp only [fixA] at C HV HQ ⊢
 go_enter Tryz.func326, Tryz.ntmps326
 go_wp2_with fail
 refine C.out.mono ?_
 rintro e w1 ⟨⟨n, rfl, hn⟩, rfl⟩
 rcases hn with ⟨_, h⟩ | ⟨j, q2, rfl, hj, h⟩
 · rw [HQ.out] at h; cases h
 rw [HQ.out] at h
 cases h
 obtain ⟨y, g, off, cap', he, hg, hc⟩ := HV.out.at_ (by decide) zap hj
 cases he
 have e0 := (hc _ (Below.refl _ _)).1 1 (by decide)
 simp only [profA] at e0
 have hjl := (List.getElem?_eq_some_iff.1 hj).1
 have hj3 : (j : Int) < (l.length : Int) := by omega
 have hj4 : (0 : Int) ≤ (j : Int) := by omega
 clear hc hj C HV HQ
 go_wp2
 go_ret
 exact ⟨rfl, bel⟩
theorem zkh (s : ByteArray) : s.toList.isEmpty = decide (s.size = 0) := by
 rw [ByteArray.toList_eq, Bool.eq_iff_iff, List.isEmpty_iff, decide_eq_true_eq]
 have : s.data.toList.length = s.size := Array.length_toList
 rw [← this, List.length_eq_zero_iff]
theorem zk1 {ps : List ProfD} {d : FixD} (h : rangedB d = false) : aloneE ps d = 2 := by rw [aloneE, if_pos h]
theorem zif {ps : List ProfD} {d : FixD} (h : rangedB d = true) (h1 : d.cable.size ≠ 0) (h2 : nameB d.cable = false) : aloneE ps d = 8 := by rw [aloneE, if_neg (by simp [h]), if_pos ⟨h1, h2⟩]
theorem zc8 {ps : List ProfD} {d : FixD} (h : rangedB d = true) (h1 : ¬ (d.cable.size ≠ 0 ∧ nameB d.cable = false)) : aloneE ps d = match profOf ps d.prof with
  | none => 6
  | some q => if q.foot < 1 ∨ 512 - d.addr + 1 < q.foot then 2 else 0 := by
 rw [aloneE, if_neg (by simp [h]), if_neg h1]
 cases profOf ps d.prof <;> rfl
theorem zpi (v : Value) (ps : List ProfD) (d : FixD) (w : World) (hv : RL 4 profA RProf w v ps) (hs : d.cable.size ≤ 9223372036854775806) :
   Calls Tryz.prog 279 #[v, .agg (fixA d)] w fun e w' => e = .returned (.int .i64 (aloneE ps d)) ∧ Below w.heap.size w w' := by
 have hb0 : Below w.heap.size w (w.alloc (.cells (fixA d) 173)) := bel
 have R0 := hid (And.intro (RowAt.new w 173 (fixA d)) hb0)
 have A := hid (zwi d (w.alloc (.cells (fixA d) 173)))
 have B := hid (fun W => zf1 d.cable W hs)
 have P := hid (fun (W : World) (hb : Below w.heap.size w W) => zhg v ps d.prof W (hv.run zap hb))
 obtain ⟨a, cap, rfl⟩ := hv.shape
 have hml := hv.few
 have HV := hid hv
 obtain ⟨r, hr⟩ : ∃ r, aloneE ps d = r := ⟨_, rfl⟩
 rw [hr]
 have HR := hid hr
 obtain ⟨b, hb⟩ : ∃ b, rangedB d = b := ⟨_, rfl⟩
 rw [hb] at A
 have HB := hid hb
 have hrg := hid (show b = true → 1 ≤ d.addr ∧ d.addr ≤ 512 from fun h => by rw [h] at hb; simp [rangedB] at hb; omega)
 obtain ⟨m, hm⟩ : ∃ m, nameB d.cable = m := ⟨_, rfl⟩
 rw [hm] at B
 have HM := hid hm
 have hes := zkh d.cable
 clear hv hb0 hr hb hm hs
 obtain ⟨ch, part, prof, uni, addr, phase, cable⟩ := d
 simp only [fixA] at A B P R0 hrg HM hes ⊢
 cases b with
 | false =>
   have hq := hid ((zk1 HB.out).symm.trans HR.out)
   go_enter Tryz.func279, Tryz.ntmps279
   go_wp2_with fail
   refine A.out.mono ?_
   rintro e w1 ⟨rfl, hb1⟩
   have hbe := hid (R0.out.2.trans (hb1.mono R0.out.2.size))
   go_wp2
   go_ret
   exact ⟨zab hq.out, hbe.out⟩
 | true =>
   obtain ⟨ad1, ad2⟩ := hrg.out rfl
   have k1 : IntKind.i64.wrap (512 - addr) = 512 - addr := IntWalk.i64_in _ (by omega)
   have k2 : IntKind.i64.wrap (512 - addr + 1) = 512 - addr + 1 := IntWalk.i64_in _ (by omega)
   by_cases hz : cable.size = 0
   · have he : cable.toList.isEmpty = true := by rw [hes]; simp [hz]
     have hq := hid ((zc8 (ps := ps) HB.out (fun h => h.1 hz)).symm.trans HR.out)
     clear hes hz
     go_enter Tryz.func279, Tryz.ntmps279
     go_wp2_with fail
     refine A.out.mono ?_
     rintro e w1 ⟨rfl, hb1⟩
     have hbe := hid (R0.out.2.trans (hb1.mono R0.out.2.size))
     obtain ⟨x1, x2, x3, x4, x5, x6⟩ := zaa (R0.out.1.run hb1)
     clear hb1 A
     go_wp2_with fail
     refine (P.out _ hbe.out).mono ?_
     rintro e w2 ⟨⟨n, rfl, hn⟩, rfl⟩
     rcases hn with ⟨hn0, h⟩ | ⟨j, q, rfl, hj, h⟩
     · have hq6 := hid (show 6 = r from by have h9 := hq.out; simp only [h] at h9; exact h9)
       clear h
       go_wp2
       go_ret
       exact ⟨zab hq6.out, hbe.out⟩
     have hq7 := hid (show (if q.foot < 1 ∨ 512 - addr + 1 < q.foot then (2 : Int) else 0) = r from by have h9 := hq.out; simp only [h] at h9; exact h9)
     obtain ⟨y, g, off, cap', he2, hg, hc⟩ := HV.out.at_ (by decide) zap hj
     cases he2
     have e0 := (hc _ hbe.out).1 1 (by decide)
     simp only [profA] at e0
     have hjl := (List.getElem?_eq_some_iff.1 hj).1
     have hj3 : (j : Int) < (ps.length : Int) := by omega
     have hj4 : (0 : Int) ≤ (j : Int) := by omega
     have hj5 : ¬ (j : Int) < 0 := by omega
     clear hc hj h
     by_cases f1 : q.foot < 1
     · have hs := hid (show 2 = r from by have h9 := hq7.out; rw [if_pos (.inl f1)] at h9; exact h9)
       go_wp2
       go_ret
       exact ⟨zab hs.out, hbe.out⟩
     by_cases f2 : 512 - addr + 1 < q.foot
     · have hs := hid (show 2 = r from by have h9 := hq7.out; rw [if_pos (.inr f2)] at h9; exact h9)
       go_wp2
       go_ret
       exact ⟨zab hs.out, hbe.out⟩
     have hs := hid (show 0 = r from by have h9 := hq7.out; rw [if_neg (by omega)] at h9; exact h9)
     go_wp2
     go_ret
     exact ⟨zab hs.out, hbe.out⟩
   have he : cable.toList.isEmpty = false := by rw [hes]; simp [hz]
   cases m with
   | false =>
     have hq := hid ((zif (ps := ps) HB.out hz HM.out).symm.trans HR.out)
     clear hes hz
     go_enter Tryz.func279, Tryz.ntmps279
     go_wp2_with fail
     refine A.out.mono ?_
     rintro e w1 ⟨rfl, hb1⟩
     have hbe := hid (R0.out.2.trans (hb1.mono R0.out.2.size))
     obtain ⟨x1, x2, x3, x4, x5, x6⟩ := zaa (R0.out.1.run hb1)
     clear hb1 A
     go_wp2_with fail
     refine (B.out _).mono ?_
     rintro e w2 ⟨rfl, rfl⟩
     go_wp2
     go_ret
     exact ⟨zab hq.out, hbe.out⟩
   | true =>
     have hq := hid ((zc8 (ps := ps) HB.out (fun h => by have := HM.out; rw [h.2] at this; cases this)).symm.trans HR.out)
     clear hes hz
     go_enter Tryz.func279, Tryz.ntmps279
     go_wp2_with fail
     refine A.out.mono ?_
     rintro e w1 ⟨rfl, hb1⟩
     have hbe := hid (R0.out.2.trans (hb1.mono R0.out.2.size))
     obtain ⟨x1, x2, x3, x4, x5, x6⟩ := zaa (R0.out.1.run hb1)
     clear hb1 A
     go_wp2_with fail
     refine (B.out _).mono ?_
     rintro e w2 ⟨rfl, rfl⟩
     go_wp2_with fail
     refine (P.out _ hbe.out).mono ?_
     rintro e w3 ⟨⟨n, rfl, hn⟩, rfl⟩
     rcases hn with ⟨hn0, h⟩ | ⟨j, q, rfl, hj, h⟩
     · have hq6 := hid (show 6 = r from by have h9 := hq.out; simp only [h] at h9; exact h9)
       clear h
       go_wp2
       go_ret
       exact ⟨zab hq6.out, hbe.out⟩
     have hq7 := hid (show (if q.foot < 1 ∨ 512 - addr + 1 < q.foot then (2 : Int) else 0) = r from by have h9 := hq.out; simp only [h] at h9; exact h9)
     obtain ⟨y, g, off, cap', he2, hg, hc⟩ := HV.out.at_ (by decide) zap hj
     cases he2
     have e0 := (hc _ hbe.out).1 1 (by decide)
     simp only [profA] at e0
     have hjl := (List.getElem?_eq_some_iff.1 hj).1
     have hj3 : (j : Int) < (ps.length : Int) := by omega
     have hj4 : (0 : Int) ≤ (j : Int) := by omega
     have hj5 : ¬ (j : Int) < 0 := by omega
     clear hc hj h
     by_cases f1 : q.foot < 1
     · have hs := hid (show 2 = r from by have h9 := hq7.out; rw [if_pos (.inl f1)] at h9; exact h9)
       go_wp2
       go_ret
       exact ⟨zab hs.out, hbe.out⟩
     by_cases f2 : 512 - addr + 1 < q.foot
     · have hs := hid (show 2 = r from by have h9 := hq7.out; rw [if_pos (.inr f2)] at h9; exact h9)
       go_wp2
       go_ret
       exact ⟨zab hs.out, hbe.out⟩
     have hs := hid (show 0 = r from by have h9 := hq7.out; rw [if_neg (by omega)] at h9; exact h9)
     go_wp2
     go_ret
     exact ⟨zab hs.out, hbe.out⟩
theorem zos (a b : Nat) (c p : Int) (d : FixD) (w : World) (ha : RowAt w a 3 #[.int .i64 c]) (hb : RowAt w b 3 #[.int .i64 p]) :
   Calls Tryz.prog 370 #[.agg #[.int .i64 d.ch, .int .i64 d.part, .string d.prof, .int .i64 d.uni, .int .i64 d.addr, .int .i64 d.phase, .string d.cable], .pointer (some ⟨a, 0, none⟩), .pointer (some ⟨b, 0, none⟩)] w fun e w' => e = .returned (.bool (decide (d.ch = c ∧ d.part = p))) ∧ Below w.heap.size w w' := by
 obtain ⟨x1, x2, x3, x4, x5, x6⟩ := zaa ha
 obtain ⟨y1, y2, y3, y4, y5, y6⟩ := zaa hb
 have x7 := x1 0
 have y7 := y1 0
 simp at x7 y7
 obtain ⟨ch, part, prof, uni, addr, phase, cable⟩ := d
 simp only
 clear x1 y1
 by_cases c0 : ch = c
 · subst c0
   by_cases c1 : part = p
   · subst c1
     go_enter Tryz.func370, Tryz.ntmps370
     go_wp2
     go_ret
     exact ⟨zac (by simp), bel⟩
   have c2 : (part == p) = false := by simp [c1]
   go_enter Tryz.func370, Tryz.ntmps370
   go_wp2
   go_ret
   exact ⟨zac (by simp [c1]), bel⟩
 have c2 : (ch == c) = false := by simp [c0]
 go_enter Tryz.func370, Tryz.ntmps370
 go_wp2
 go_ret
 exact ⟨zac (by simp [c0]), bel⟩
theorem zwv : ∀ args W, (callFunc 370 args).run Tryz.prog W = .ok (.enter 370 args) W := enters_of Tryz.func370 (by kernel_rfl) rfl
theorem zjc (v : Value) (l : List FixD) (mb : Nat) (c p : Int) (w : World) (hv : ListAt 7 fixA w v l) :
  Calls Tryz.prog 346 #[.agg #[v, .map (some mb)], .int .i64 c, .int .i64 p] w fun e w' => (∃ n, e = .returned (.int .i64 n) ∧ decide (0 ≤ n) = l.any fun q => decide (q.ch = c ∧ q.part = p)) ∧ Below w.heap.size w w' := by
 have hmf : ∀ (fn : Fn) (first cap : Array Value) (w : World), (Instr.makeFunc fn first cap).run Tryz.prog w = .ok (.func fn first cap) w := fun _ _ _ _ => rfl
 obtain ⟨a, cap, rfl⟩ := hv.shape
 have hb3 : Below w.heap.size w (((w.alloc (.cells #[.slice a l.length cap, .map (some mb)] 382)).alloc (.cells #[.int .i64 c] 3)).alloc (.cells #[.int .i64 p] 3)) := bel
 have r1 : RowAt (((w.alloc (.cells #[.slice a l.length cap, .map (some mb)] 382)).alloc (.cells #[.int .i64 c] 3)).alloc (.cells #[.int .i64 p] 3)) (w.heap.size + 1) 3 #[.int .i64 c] := RowAt.alloc (RowAt.mk (by simp) rfl) _
 have r2 : RowAt (((w.alloc (.cells #[.slice a l.length cap, .map (some mb)] 382)).alloc (.cells #[.int .i64 c] 3)).alloc (.cells #[.int .i64 p] 3)) (w.heap.size + 1 + 1) 3 #[.int .i64 p] := RowAt.mk (by simp) rfl
 have C := hid (zul 370 #[.pointer (some ⟨w.heap.size + 1, 0, none⟩), .pointer (some ⟨w.heap.size + 1 + 1, 0, none⟩)] (fun q => decide (q.ch = c ∧ q.part = p)) (.slice a l.length cap) l _ (hv.run hb3) zwv (fun d _ W hb => zos _ _ c p d W (r1.run hb) (r2.run hb)))
 have HB := hid hb3
 clear hb3 r1 r2 hv
 generalize (fun q : FixD => decide (q.ch = c ∧ q.part = p)) = f at C ⊢
 go_enter Tryz.func346, Tryz.ntmps346
 go_wp2_with fail
 refine C.out.mono ?_
 rintro e w1 ⟨⟨n, rfl, hn⟩, hb1⟩
 have HN := hid (And.intro hn (HB.out.trans (hb1.mono HB.out.size)))
 clear hn hb1
 go_wp2
 go_ret
 exact ⟨⟨n, rfl, HN.out.1⟩, HN.out.2⟩
def profG (x : ProfD × Value) : ByteArray × Value := (x.1.name, .agg (profA x))
def findP (xs : List (ProfD × Value)) (s : ByteArray) : Option (ProfD × Value) := xs.find? fun x => decide (x.1.name = s)
theorem zgf (xs : List (ProfD × Value)) (s : ByteArray) : findG (xs.map profG) s = (findP xs s).map fun x => .agg (profA x) := by
 unfold findG findP
 induction xs with
 | nil => rfl
 | cons x xs ih =>
   by_cases h : x.1.name = s
   · simp [profG, h]
   have h2 : ¬ s = x.1.name := fun e => h e.symm
   simpa [profG, h, h2] using ih
theorem zct (xs : List (ProfD × Value)) (s : ByteArray) : profOf (xs.map (·.1)) s = (findP xs s).map (·.1) := by
 unfold profOf findP
 induction xs with
 | nil => rfl
 | cons x xs ih =>
   by_cases h : x.1.name = s
   · simp [h]
   simpa [h] using ih
theorem zq9 (name : ByteArray) (foot watts : Int) (v : Value) (w : World) : (Instr.field 89 (.agg #[.string name, .int .i64 foot, .int .i64 watts, v]) 1).run Tryz.prog w = .ok (.int .i64 foot) w := by kernel_rfl
theorem prof0 (w : World) : (zeroValue 89).run Tryz.prog w = .ok (.agg #[.string ⟨#[]⟩, .int .i64 0, .int .i64 0, .slice none 0 0]) w := by kernel_rfl
theorem zdo {w : World} {b : Nat} {xs : List (ProfD × Value)} (h : MapAt kS w b (xs.map profG)) (s : ByteArray) : (Instr.lookup 380 (.map (some b)) (.string s) false).run Tryz.prog w = .ok (((findP xs s).map fun x => Value.agg (profA x)).getD (.agg #[.string ⟨#[]⟩, .int .i64 0, .int .i64 0, .slice none 0 0])) w := by
 have := zdn sameS checkS Tryz.underlying380 Tryz.underlying9 (prof0 w) h s
 rw [zgf] at this
 exact this
theorem zvl {w : World} {b : Nat} {xs : List (ProfD × Value)} (h : MapAt kS w b (xs.map profG)) (x : ProfD × Value) (hx : findP xs x.1.name = none) :
  ∃ w2, (Instr.mapUpdate 380 (.map (some b)) (.string x.1.name) (.agg (profA x))).run Tryz.prog w = .ok () w2 ∧ MapAt kS w2 b ((xs ++ [x]).map profG) ∧ Upd b w w2 := by
 rw [List.map_append]
 exact zfg sameS checkS Tryz.underlying380 Tryz.underlying9 h x.1.name (by rw [zgf, hx]; rfl) _
theorem zl4 (a : Option Addr) (n cap mb : Nat) (xs : List (ProfD × Value)) (d : FixD) (x : ProfD × Value) (w : World) (hm : MapAt kS w mb (xs.map profG)) (hx : findP xs d.prof = some x) :
  Calls Tryz.prog 371 #[.agg #[.slice a n cap, .map (some mb)], .agg (fixA d)] w fun e w' => e = .returned (.int .i64 x.1.foot) ∧ Below w.heap.size w w' := by
 have hb2 : Below w.heap.size w ((w.alloc (.cells #[.slice a n cap, .map (some mb)] 382)).alloc (.cells (fixA d) 173)) := bel
 have hlk := zdo (hm.run hb2) d.prof
 rw [hx] at hlk
 simp only [Option.map_some, Option.getD_some, profA] at hlk
 clear hm hx hb2
 obtain ⟨ch, part, prof, uni, addr, phase, cable⟩ := d
 obtain ⟨⟨name, foot, watts, feats⟩, fv⟩ := x
 simp only [fixA] at hlk ⊢
 have hfl := zq9 name foot watts fv
 go_enter Tryz.func371, Tryz.ntmps371
 go_wp2
 go_ret
 exact ⟨rfl, bel⟩
theorem zqh {γ : Type} [DecidableEq γ] {P : Program} {t kt et : TypeId} {kind : TypeDesc} {κ : γ → Value} {w : World} {b : Nat} {l : List (γ × Value)} (hs : ∀ a b, Instr.sameNow kind (κ a) (κ b) = some (decide (a = b))) (hc : ∀ b n a w, (Instr.checkKey b (n + 1) kt (κ a)).run P w = .ok () w)
   (ht : P.underlying t = some (.map kt et)) (hk : P.underlying kt = some kind) {z : Value} (hz : (zeroValue et).run P w = .ok z w) (h : MapAt κ w b l) (x : γ) :
   (Instr.lookup t (.map (some b)) (κ x) true).run P w = .ok (.tuple #[(findG l x).getD z, .bool (findG l x).isSome]) w := by
 have hg : (getObj b).run P w = .ok (.map (entG κ l 0).toArray l.length) w := by
   unfold MapAt at h
   simp only [getObj, Sem.run, h]
 obtain ⟨r, h1, h2⟩ := zgj hs l x 0 0
 have hf : (Instr.findKey kt (κ x) (entG κ l 0).toArray.toList).run P w = .ok r w := by
   simp [Instr.findKey, run_underlying hk, h1]
 have hck := fun e => hc e 9999 x w
 unfold Instr.lookup
 cases r with
 | none =>
   have h3 : findG l x = none := by rw [← h2]; rfl
   simp [run_underlying ht, hg, hck, hf, hz, h3]
 | some p =>
   have h3 : findG l x = some p.2 := by rw [← h2]; rfl
   simp [run_underlying ht, hg, hck, hf, h3]
theorem zgi {w : World} {b : Nat} {xs : List (ProfD × Value)} (h : MapAt kS w b (xs.map profG)) (s : ByteArray) : (Instr.lookup 380 (.map (some b)) (.string s) true).run Tryz.prog w = .ok (.tuple #[((findP xs s).map fun x => Value.agg (profA x)).getD (.agg #[.string ⟨#[]⟩, .int .i64 0, .int .i64 0, .slice none 0 0]), .bool (findP xs s).isSome]) w := by
 have := zqh sameS checkS Tryz.underlying380 Tryz.underlying9 (prof0 w) h s
 rw [zgf, Option.isSome_map] at this
 exact this
theorem zp2 {w W : World} {b : Nat} (hb : Below (w.alloc (.map #[] 0)).heap.size (w.alloc (.map #[] 0)) W) (h : b = w.heap.size) : MapAt kS W b (([] : List (ProfD × Value)).map profG) := by
 subst h
 exact MapAt.run (l := []) (heap_alloc_new w _) hb
theorem zxi (a : Option Addr) (n cap : Nat) (vp : Value) (ps : List ProfD) (w : World) (hp : RL 4 profA RProf w vp ps) (hd : ∀ (k : Nat) (d : ProfD), ps[k]? = some d → ((ps.take k).any fun q => decide (q.name = d.name)) = false) :
  Calls Tryz.prog 306 #[.slice a n cap, vp] w fun e w' => (∃ (mb : Nat) (xs : List (ProfD × Value)), e = .returned (.agg #[.slice a n cap, .map (some mb)]) ∧ MapAt kS w' mb (xs.map profG) ∧ xs.map (·.1) = ps ∧ ∀ x ∈ xs, RProf w x) ∧ Below w.heap.size w w' := by
 have hmm := @run_makeMap Tryz.prog
 obtain ⟨xs, hxs, hv, hx⟩ := hp
 obtain ⟨pa, pcap, rfl⟩ := hv.shape
 have hml := hv.few
 have HV := hid hv
 have HX := hid hx
 have HN := hid hxs
 have HF := hid (show ∀ (k : Nat) (x : ProfD × Value), xs[k]? = some x → findP (xs.take k) x.1.name = none from fun k x hk => by
  have h1 := hd k x.1 (by rw [← hxs, List.getElem?_map, hk]; rfl)
  unfold findP
  rw [List.find?_eq_none]
  intro y hy hc
  rw [← hxs, ← List.map_take, List.any_map, List.any_eq_false] at h1
  exact h1 y hy hc)
 have B0 : Below w.heap.size w (((w.alloc (.cells #[.slice none 0 0, .map none] 382)).alloc (.map #[] 0)).alloc (.cells #[.slice a n cap, .map (some (w.heap.size + 1))] 382)) := bel
 have R0 : RowAt (((w.alloc (.cells #[.slice none 0 0, .map none] 382)).alloc (.map #[] 0)).alloc (.cells #[.slice a n cap, .map (some (w.heap.size + 1))] 382)) w.heap.size 382 #[.slice none 0 0, .map none] := RowAt.alloc (RowAt.alloc (RowAt.mk rfl rfl) _) _
 have R2 : RowAt (((w.alloc (.cells #[.slice none 0 0, .map none] 382)).alloc (.map #[] 0)).alloc (.cells #[.slice a n cap, .map (some (w.heap.size + 1))] 382)) (w.heap.size + 1 + 1) 382 #[.slice a n cap, .map (some (w.heap.size + 1))] := RowAt.mk (by simp) rfl
 have M1 : MapAt kS (((w.alloc (.cells #[.slice none 0 0, .map none] 382)).alloc (.map #[] 0)).alloc (.cells #[.slice a n cap, .map (some (w.heap.size + 1))] 382)) (w.heap.size + 1) (([] : List (ProfD × Value)).map profG) := zp2 (Below.alloc (Below.refl _ _) (Nat.le_refl _) _) (by simp)
 have H0 := hid (And.intro M1 (And.intro R0 (And.intro R2 B0)))
 clear hv hx hxs hd B0 R0 R2 M1
 go_enter Tryz.func306, Tryz.ntmps306
 go_wp2
 go_loopw [15] (fun i wr => ∃ k : Nat, k ≤ xs.length ∧ i = .int .i64 k ∧ Hid (MapAt kS wr (w.heap.size + 1) ((xs.take k).map profG) ∧ RowAt wr w.heap.size 382 #[.slice none 0 0, .map none] ∧ RowAt wr (w.heap.size + 1 + 1) 382 #[.slice a n cap, .map (some (w.heap.size + 1))] ∧ Below w.heap.size w wr)) (fun i _ => xs.length - (intOf i).toNat)
 case atStart => exact ⟨0, Nat.zero_le _, rfl, H0⟩
 case round =>
  obtain ⟨k, hk, rfl, hh⟩ := hrel
  have hbs := hh.out.2.2.2.size
  have hsz := lt_of_block hh.out.2.2.1
  by_cases hlt : k < xs.length
  · have hlt3 : (k : Int) < (xs.length : Int) := by omega
    obtain ⟨x, hx⟩ : ∃ x, xs[k]? = some x := ⟨_, List.getElem?_eq_getElem hlt⟩
    have hrp := HX.out x (List.mem_of_getElem? hx)
    obtain ⟨g, off, cap', he, hg, hc⟩ := HV.out.at_ (by decide) hx
    cases he
    have hfn := HF.out k x hx
    have HXX := hid hx
    obtain ⟨d, y⟩ := x
    have hys : ∃ a c, y = .slice a d.feats.length c := hrp.1.shape
    obtain ⟨ya, yc, rfl⟩ := hys
    have e0 : wr.cell? ⟨g, off + k * 4, none⟩ = some (.string d.name) := hc wr hh.out.2.2.2 0 (by decide)
    have e1 : wr.cell? ⟨g, off + k * 4 + 1, none⟩ = some (.int .i64 d.foot) := hc wr hh.out.2.2.2 1 (by decide)
    have e2 : wr.cell? ⟨g, off + k * 4 + 2, none⟩ = some (.int .i64 d.watts) := hc wr hh.out.2.2.2 2 (by decide)
    have e3 : wr.cell? ⟨g, off + k * 4 + 3, none⟩ = some (.slice ya d.feats.length yc) := hc wr hh.out.2.2.2 3 (by decide)
    have hgr : g < wr.heap.size := by omega
    have hgn : ¬ g = wr.heap.size := by omega
    have hn1 : ¬ w.heap.size + 1 = wr.heap.size := by omega
    have hn2 : ¬ w.heap.size + 1 + 1 = wr.heap.size + 1 := by omega
    have hn3 : w.heap.size + 1 + 1 < wr.heap.size + 1 := by omega
    have hb1 : Below wr.heap.size wr (wr.alloc (.cells (profA (d, .slice ya d.feats.length yc)) 89)) := bel
    have hb2 : Below wr.heap.size wr ((wr.alloc (.cells (profA (d, .slice ya d.feats.length yc)) 89)).alloc (.cells #[.string ⟨#[]⟩, .int .i64 0, .int .i64 0, .slice none 0 0] 89)) := bel
    have hlk := zgi (hh.out.1.run hb1) d.name
    rw [hfn] at hlk
    obtain ⟨w3, hup, hma, hu⟩ := zvl (hh.out.1.run hb2) (d, .slice ya d.feats.length yc) hfn
    obtain ⟨x1, x2, x3, x4, x5, x6⟩ := zaa hh.out.2.2.1
    have hnx := hid (And.intro (show MapAt kS w3 (w.heap.size + 1) ((xs.take (k + 1)).map profG) from by rw [zaf HXX.out]; exact hma) (And.intro ((hh.out.2.1.run hb2).upd hu (by omega)) (And.intro ((hh.out.2.2.1.run hb2).upd hu (by omega)) (zaw (hh.out.2.2.2.trans (hb2.mono hbs)) hu (by omega)))))
    simp only [profA, Option.map_none, Option.getD_none, Option.isSome_none] at hlk hup
    clear hx hc hfn hrp hb1 hb2 hma hu hk
    go_wp2
    go_roundw
    case rel => exact ⟨k + 1, by omega, by go_num, hnx⟩
    case measure => simp [intOf]; omega
  obtain rfl : k = xs.length := by omega
  have hm := hid (show MapAt kS wr (w.heap.size + 1) (xs.map profG) from by have := hh.out.1; rwa [List.take_length] at this)
  obtain ⟨x1, x2, x3, x4, x5, x6⟩ := zaa hh.out.2.2.1
  obtain ⟨y1, y2, y3, y4, y5, y6⟩ := zaa hh.out.2.1
  have hu : Upd w.heap.size wr ((wr.setCell ⟨w.heap.size, 0, none⟩ (.slice a n cap)).setCell ⟨w.heap.size, 1, none⟩ (.map (some (w.heap.size + 1)))) := zav (zav (za5 _ _) _ _) _ _
  have rz : RowAt ((wr.setCell ⟨w.heap.size, 0, none⟩ (.slice a n cap)).setCell ⟨w.heap.size, 1, none⟩ (.map (some (w.heap.size + 1)))) w.heap.size 382 #[.slice a n cap, .map (some (w.heap.size + 1))] := RowAt.set (i := 1) (RowAt.set (i := 0) hh.out.2.1 rfl) rfl
  obtain ⟨z1, z2, z3, z4, z5, z6⟩ := zaa rz
  have z7 := z1 0
  have z8 := z1 1
  simp only [List.getElem?_toArray, List.getElem?_cons_zero, List.getElem?_cons_succ] at z7 z8
  have HE := hid (And.intro (hm.out.upd hu (by omega)) (zaw hh.out.2.2.2 hu (Nat.le_refl _)))
  clear rz hu z1
  go_wp2
  refine bodyPost_ret (v := .agg #[.slice a n cap, .map (some (w.heap.size + 1))]) ?_ rfl ⟨⟨w.heap.size + 1, xs, rfl, HE.out.1, HN.out, HX.out⟩, HE.out.2⟩
  simp [results, Tryz.results306, go_sem, z7, z8]
theorem zp0 (s : ByteArray) (w : World) (hs : s.size ≤ 9223372036854775807) :
   Calls Tryz.prog 208 #[.string s] w fun e w' => e = .returned (.int .i64 (labE s)) ∧ w = w' := by
 by_cases h : 24 < s.size
 · have h2 : (24 : Int) < (s.size : Int) := by omega
   rw [labE, if_pos h]
   go_enter Tryz.func208, Tryz.ntmps208
   go_wp2
   go_ret
   exact ⟨rfl, rfl⟩
 have h2 : ¬ (24 : Int) < (s.size : Int) := by omega
 have h3 : (s.size : Int) ≤ 24 := by omega
 have HL := hid (show labE s = if s.data.toList.all okCh then 0 else 3 from by rw [labE, if_neg h])
 go_enter Tryz.func208, Tryz.ntmps208
 go_wp2
 go_loop [3] (fun i => ∃ k : Nat, k ≤ s.size ∧ i = .int .i64 k ∧ Hid ((s.data.toList.take k).all okCh = true)) (fun i => s.size - (intOf i).toNat)
 case atStart => exact ⟨0, Nat.zero_le _, rfl, by simp [Hid]⟩
 case round =>
   obtain ⟨k, hk, rfl, hf⟩ := hrel
   by_cases hlt2 : k < s.size
   · have hlt3 : (k : Int) < (s.size : Int) := by omega
     go_wp2
     all_goals first
      | (go_ret
         have hbad := zca hlt2 (by grind [okCh])
         exact ⟨zab (by rw [HL.out, hbad]; rfl), rfl⟩)
      | (go_round
         case rel => exact ⟨k + 1, by omega, by go_num, zed hlt2 hf.out (by grind [okCh])⟩
         case measure => simp [intOf]; omega)
   obtain rfl : k = s.size := by omega
   go_wp2
   go_ret
   exact ⟨zab (by rw [HL.out, zer hf.out]; rfl), rfl⟩
end Go.Proofs.YtjeigphhepngmaaGreatDoor
