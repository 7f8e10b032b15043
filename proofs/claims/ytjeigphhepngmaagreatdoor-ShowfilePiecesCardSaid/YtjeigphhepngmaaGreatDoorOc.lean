/- -/
import Derived.Test.YtjeigphhepngmaaGreatDoorJy
namespace Go.Proofs.YtjeigphhepngmaaGreatDoor
open Go.RowKit
open Go.Lib (hid)
set_option maxHeartbeats 8000000
set_option linter.unusedSimpArgs false
set_option maxRecDepth 100000
def namesL (p : List ProfD) : List ByteArray := p.map ProfD.name
theorem zvh (p : List ProfD) (a : ByteArray) : ((namesL p).any fun m => decide (a = m)) = p.any fun q => decide (q.name = a) := by
 rw [namesL, List.any_map]
 congr 1
 funext q
 simp [eq_comm]
theorem zr4 {l : List ProfD} {k : Nat} {d : ProfD} (h : l[k]? = some d) : namesL (l.take (k + 1)) = namesL (l.take k) ++ [d.name] := by rw [zaf h]; simp [namesL]
theorem zgh (cs : List (List Pt)) (p : List ProfD) (d : ProfD) : profAt cs p d = if profE cs d ≠ 0 then profE cs d else if ((namesL p).any fun m => decide (d.name = m)) = true then 7 else 0 := by rw [profAt, zvh]
def univE (cs : List (List Pt)) (ps : List ProfD) (fs : List FixD) : Int := if curvesE cs ≠ 0 then curvesE cs else if profsE cs ps ≠ 0 then profsE cs ps else patchE ps fs
theorem zw4 (vc vp vf : Value) (cs : List (List Pt)) (ps : List ProfD) (fs : List FixD) (w : World) (hc : RL 1 curveA RCurve w vc cs) (hp : RL 4 profA RProf w vp ps) (hf : ∃ a n c, vf = .slice a n c)
   (HP : profsE cs ps = 0 → ∀ W, Below w.heap.size w W → Calls Tryz.prog 268 #[vf, vp] W fun e w' => e = .returned (.int .i64 (patchE ps fs)) ∧ Below W.heap.size W w') :
   Calls Tryz.prog 186 #[.agg #[vc, vp, vf]] w fun e w' => e = .returned (.int .i64 (univE cs ps fs)) ∧ Below w.heap.size w w' := by
 have hmm := @run_makeMap Tryz.prog
 obtain ⟨ca, ccap, rfl⟩ := hc.shape
 obtain ⟨pa, pcap, rfl⟩ := hp.shape
 obtain ⟨fa, fn, fcap, rfl⟩ := hf
 have hcl := hc.few
 have hpl := hp.few
 have hb0 : Below w.heap.size w (w.alloc (.cells #[.slice ca cs.length ccap, .slice pa ps.length pcap, .slice fa fn fcap] 255)) := bel
 have r0 := RowAt.new w 255 #[.slice ca cs.length ccap, .slice pa ps.length pcap, .slice fa fn fcap]
 have H0 := hid (And.intro r0 hb0)
 have HC := hid hc
 have HV := hid hp
 have HPP := hid HP
 clear r0 hb0 hc hp HP
 by_cases h4 : 16 < cs.length
 · have h5 : (16 : Int) < (cs.length : Int) := by omega
   have h6 : univE cs ps fs = 5 := by rw [univE, curvesE, if_pos h4]; rfl
   rw [h6]
   clear h4 h6
   go_enter Tryz.func186, Tryz.ntmps186
   go_wp2
   go_ret
   exact ⟨rfl, H0.out.2⟩
 have h5 : ¬ (16 : Int) < (cs.length : Int) := by omega
 have hce : curvesE cs = allB (fun _ c => curveE c) cs := by rw [curvesE, if_neg h4]
 obtain ⟨U, hU⟩ : ∃ U, univE cs ps fs = U := ⟨_, rfl⟩
 rw [hU]
 have HU := hid hU
 have HCE := hid hce
 clear h4 hU hce
 go_enter Tryz.func186, Tryz.ntmps186
 go_wp2
 go_loopw [17] (fun i wr => ∃ k : Nat, i = .int .i64 k ∧ Hid (LoopB (fun _ c => curveE c) cs k ∧ RowAt wr w.heap.size 255 #[.slice ca cs.length ccap, .slice pa ps.length pcap, .slice fa fn fcap] ∧ Below w.heap.size w wr)) (fun i _ => cs.length - (intOf i).toNat)
 case atStart => exact ⟨0, rfl, hid ⟨zam _ _, H0.out⟩⟩
 case round =>
   obtain ⟨k, rfl, hh⟩ := hrel
   have hk := hh.out.1.2.1
   have hbs := hh.out.2.2.size
   by_cases hlt : k < cs.length
   · have hlt3 : (k : Int) < (cs.length : Int) := by omega
     obtain ⟨d, hd⟩ : ∃ d, cs[k]? = some d := ⟨_, List.getElem?_eq_getElem hlt⟩
     obtain ⟨y, g, off, cap', he, hg, hcc⟩ := HC.out.at_ (by decide) zaz hd
     cases he
     have e0 : wr.cell? ⟨g, off + k, none⟩ = some y := by have h9 := (hcc wr hh.out.2.2).1 0 (by decide); rw [Nat.mul_one, Nat.add_zero] at h9; exact h9
     have hr : ListAt 2 ptA wr y d := (hcc wr hh.out.2.2).2
     obtain ⟨ya, yc, rfl⟩ := hr.shape
     obtain ⟨x, hx⟩ : ∃ x, curveE d = x := ⟨_, rfl⟩
     have C := zky _ d wr hr
     rw [hx] at C
     have HCC := hid C
     have HX := hid hx
     have HD := hid hd
     clear hd hcc hk hx C hr
     by_cases hx0 : x = 0
     · subst hx0
       have hgo := hid (zah hh.out.1 HD.out HX.out)
       go_wp2_with fail
       refine HCC.out.mono ?_
       rintro e w1 ⟨rfl, hb1⟩
       have hnx := hid (And.intro (hh.out.2.1.run hb1) (hh.out.2.2.trans (hb1.mono hbs)))
       go_wp2
       go_roundw
       case rel => exact ⟨k + 1, by go_num, hid ⟨hgo.out, hnx.out⟩⟩
       case measure => simp [intOf]; omega
     have hx1 : (x == 0) = false := by simpa using hx0
     have hst := hid (show U = x from by rw [← HU.out, univE, HCE.out, zad hh.out.1 HD.out HX.out hx0, if_pos hx0])
     go_wp2_with fail
     refine HCC.out.mono ?_
     rintro e w1 ⟨rfl, hb1⟩
     go_wp2
     go_ret
     exact ⟨zab hst.out.symm, hh.out.2.2.trans (hb1.mono hbs)⟩
   obtain rfl : k = cs.length := by omega
   have hen := hid (show U = if profsE cs ps ≠ 0 then profsE cs ps else patchE ps fs from by rw [← HU.out, univE, HCE.out, zan hh.out.1]; rfl)
   have R1 := hid (And.intro hh.out.2.1 (And.intro hh.out.2.2 HCE.out))
   obtain ⟨x1, x2, x3, x4, x5, x6⟩ := zaa hh.out.2.1
   clear hh hk
   have hws : w.heap.size < wr.heap.size := lt_of_block R1.out.1
   by_cases h6 : 32 < ps.length
   · have h7 : (32 : Int) < (ps.length : Int) := by omega
     have hst := hid (show U = 5 from by rw [hen.out, profsE, if_pos h6]; rfl)
     go_wp2
     go_ret
     exact ⟨zab hst.out.symm, R1.out.2.1⟩
   have h7 : ¬ (32 : Int) < (ps.length : Int) := by omega
   have hpe := hid (show profsE cs ps = allB (profAt cs) ps from by rw [profsE, if_neg h6])
   have HM := hid (show MapAt kS (wr.alloc (.map #[] 0)) wr.heap.size (onB (namesL [])) from mapNew (Below.refl _ _) rfl)
   have HW := hid (show Below w.heap.size w (wr.alloc (.map #[] 0)) from R1.out.2.1.alloc hbs _)
   have HR := hid (R1.out.1.alloc (.map #[] 0))
   clear h6
   go_wp2
   go_loopw [35] (fun i wz => ∃ k : Nat, i = .int .i64 k ∧ Hid (LoopB (profAt cs) ps k ∧ RowAt wz w.heap.size 255 #[.slice ca cs.length ccap, .slice pa ps.length pcap, .slice fa fn fcap] ∧ MapAt kS wz wr.heap.size (onB (namesL (ps.take k))) ∧ Below w.heap.size w wz)) (fun i _ => ps.length - (intOf i).toNat)
   case atStart => exact ⟨0, rfl, hid ⟨zam _ _, HR.out, HM.out, HW.out⟩⟩
   case round =>
     obtain ⟨k, rfl, hh⟩ := hrel
     have hk := hh.out.1.2.1
     have hbs := hh.out.2.2.2.size
     by_cases hlt : k < ps.length
     · have hlt3 : (k : Int) < (ps.length : Int) := by omega
       obtain ⟨d, hd⟩ : ∃ d, ps[k]? = some d := ⟨_, List.getElem?_eq_getElem hlt⟩
       obtain ⟨y, g, off, cap', he, hg, hcc⟩ := HV.out.at_ (by decide) zap hd
       cases he
       obtain ⟨hcl, hrf⟩ := hcc wr hh.out.2.2.2
       have hys : ∃ a c, y = .slice a d.feats.length c := hrf.1.shape
       obtain ⟨ya, yc, rfl⟩ := hys
       have e0 : wr.cell? ⟨g, off + k * 4, none⟩ = some (.string d.name) := hcl 0 (by decide)
       have e1 : wr.cell? ⟨g, off + k * 4 + 1, none⟩ = some (.int .i64 d.foot) := hcl 1 (by decide)
       have e2 : wr.cell? ⟨g, off + k * 4 + 2, none⟩ = some (.int .i64 d.watts) := hcl 2 (by decide)
       have e3 : wr.cell? ⟨g, off + k * 4 + 3, none⟩ = some (.slice ya d.feats.length yc) := hcl 3 (by decide)
       have hgr : g < wr.heap.size := by omega
       have hgn : ¬ g = wr.heap.size := by omega
       have HD := hid hd
       obtain ⟨x1, x2, x3, x4, x5, x6⟩ := zaa hh.out.2.1
       have hb3 : Below wr.heap.size wr (wr.alloc (.cells (profA (d, .slice ya d.feats.length yc)) 89)) := bel
       have C := hid (zoh (d, .slice ya d.feats.length yc) (.slice ca cs.length ccap) cs (wr.alloc (.cells (profA (d, .slice ya d.feats.length yc)) 89)) (zap _ _ _ hb3 hrf) (HC.out.run zaz (hh.out.2.2.2.trans (hb3.mono hbs))))
       have HB3 := hid (And.intro hb3 (RowAt.new wr 89 (profA (d, .slice ya d.feats.length yc))))
       obtain ⟨x, hx⟩ : ∃ x, profE cs d = x := ⟨_, rfl⟩
       simp only [hx, profA] at C HB3
       have HX := hid hx
       clear hd hcc hk hx hcl hrf hb3
       by_cases hx0 : x = 0
       · subst hx0
         obtain ⟨b, hb⟩ : ∃ b, ((namesL (ps.take k)).any fun m => decide (d.name = m)) = b := ⟨_, rfl⟩
         have HB := hid hb
         cases b with
         | true =>
           have hst := hid (show U = 7 from by rw [hen.out, hpe.out, zad hh.out.1 HD.out (by rw [zgh, HX.out, if_neg (by simp), if_pos HB.out]) (by decide : (7 : Int) ≠ 0)]; rfl)
           clear hb
           go_wp2_with fail
           refine C.out.mono ?_
           rintro e w1 ⟨rfl, hb1⟩
           have hb4 := hid (HB3.out.1.trans (hb1.mono HB3.out.1.size))
           have q1 := HB3.out.2.run hb1
           obtain ⟨z1, z2, z3, z4, z5, z6⟩ := zaa q1
           have z7 := z1 0
           simp at z7
           have hlk := zla (hh.out.2.2.1.run hb4.out) d.name
           rw [HB.out] at hlk
           have hbe := hid (hh.out.2.2.2.trans (hb4.out.mono hbs))
           clear z1 q1 hb1 e0 e1 e2 e3 x1
           go_wp2
           go_ret
           exact ⟨zab hst.out.symm, hbe.out⟩
         | false =>
           have hgo := hid (zah hh.out.1 HD.out (by rw [zgh, HX.out, if_neg (by simp), if_neg (by simp [HB.out])]))
           clear hb
           go_wp2_with fail
           refine C.out.mono ?_
           rintro e w1 ⟨rfl, hb1⟩
           have hb4 := hid (HB3.out.1.trans (hb1.mono HB3.out.1.size))
           have q1 := HB3.out.2.run hb1
           obtain ⟨z1, z2, z3, z4, z5, z6⟩ := zaa q1
           have z7 := z1 0
           simp at z7
           have hlk := zla (hh.out.2.2.1.run hb4.out) d.name
           rw [HB.out] at hlk
           obtain ⟨w3, hup, hma, hu⟩ := zl7 (hh.out.2.2.1.run hb4.out) d.name HB.out
           have hnx := hid (And.intro ((hh.out.2.1.run hb4.out).upd hu (by omega)) (And.intro (show MapAt kS w3 _ (onB (namesL (ps.take (k + 1)))) from by rw [zr4 HD.out]; exact hma) (zaw (hh.out.2.2.2.trans (hb4.out.mono hbs)) hu (by omega))))
           clear z1 q1 hb1 e0 e1 e2 e3 x1 hma hu
           go_wp2
           go_roundw
           case rel => exact ⟨k + 1, by go_num, hid ⟨hgo.out, hnx.out⟩⟩
           case measure => simp [intOf]; omega
       have hx1 : (x == 0) = false := by simpa using hx0
       have hst := hid (show U = x from by rw [hen.out, hpe.out, zad hh.out.1 HD.out (by rw [zgh, HX.out]; exact if_pos hx0) hx0, if_pos hx0])
       go_wp2_with fail
       refine C.out.mono ?_
       rintro e w1 ⟨rfl, hb1⟩
       have hb4 := hid (HB3.out.1.trans (hb1.mono HB3.out.1.size))
       have hbe := hid (hh.out.2.2.2.trans (hb4.out.mono hbs))
       go_wp2
       go_ret
       exact ⟨zab hst.out.symm, hbe.out⟩
     obtain rfl : k = ps.length := by omega
     have hz := zan hh.out.1
     have hst := hid (show U = patchE ps fs from by rw [hen.out, hpe.out, hz]; rfl)
     have D := hid (HPP.out (by rw [hpe.out, hz]) _ hh.out.2.2.2)
     obtain ⟨x1, x2, x3, x4, x5, x6⟩ := zaa hh.out.2.1
     have hbw := hid hh.out.2.2.2
     clear hz hh
     go_wp2_with fail
     refine D.out.mono ?_
     rintro e w1 ⟨rfl, hb1⟩
     go_wp2
     go_ret
     exact ⟨zab hst.out.symm, hbw.out.trans (hb1.mono hbw.out.size)⟩
theorem zo8 {p : List SlotD} {d : SlotD} (h : nameB d.name = false) : slotE p d = 8 := by rw [slotE, if_pos h]
theorem znh {p : List SlotD} {d : SlotD} (h : nameB d.name = true) (h2 : (p.any fun q => decide (q.name = d.name)) = true) : slotE p d = 7 := by rw [slotE, if_neg (by simp [h]), if_pos h2]
theorem zgv {p : List SlotD} {d : SlotD} (h : nameB d.name = true) (h2 : (p.any fun q => decide (q.name = d.name)) = false) (h3 : levB d.lo = false ∨ levB d.hi = false ∨ d.hi < d.lo) : slotE p d = 2 := by
 rw [slotE, if_neg (by simp [h]), if_neg (by simp [h2]), if_pos h3]
theorem zxm {d : SlotD} (h : nameB d.name = true) (h3 : levB d.lo = true ∧ levB d.hi = true ∧ ¬ d.hi < d.lo) : slotE [] d = 0 := by
 rw [slotE, if_neg (by simp [h]), if_neg (by simp), if_neg (by simp [h3])]
 rfl
theorem ziy {l : List SlotD} {j : Nat} {q d : SlotD} (hq : l[j]? = some q) (h : nameB d.name = true) (h2 : ((l.take (j + 1)).any fun q => decide (q.name = d.name)) = false) (h3 : levB d.lo = true ∧ levB d.hi = true ∧ ¬ d.hi < d.lo) : slotE (l.take (j + 1)) d = if d.lo ≤ q.hi then 9 else 0 := by
 rw [slotE, if_neg (by simp [h]), if_neg (by simp [h2]), if_neg (by simp [h3]), zbs hq]
theorem zo3 (v : Value) (l : List SlotD) (w : World) (hv : ListAt 3 slotA w v l) (hs : ∀ s ∈ l, s.name.size ≤ 9223372036854775806) :
   Calls Tryz.prog 386 #[v] w fun e w' => e = .returned (.int .i64 (wheelE l)) ∧ Below w.heap.size w w' := by
 obtain ⟨a, cap, rfl⟩ := hv.shape
 have hml := hv.few
 by_cases h4 : 16 < l.length
 · have h5 : (16 : Int) < (l.length : Int) := by omega
   rw [wheelE, if_pos h4]
   clear hv h4
   go_enter Tryz.func386, Tryz.ntmps386
   go_wp2
   go_ret
   exact ⟨rfl, bel⟩
 have h5 : ¬ (16 : Int) < (l.length : Int) := by omega
 rw [wheelE, if_neg h4]
 have HV := hid hv
 have HS := hid hs
 clear hv hs h4
 go_enter Tryz.func386, Tryz.ntmps386
 go_wp2
 go_loopw [3] (fun i wr => ∃ k : Nat, i = .int .i64 k ∧ Hid (LoopB slotE l k ∧ Below w.heap.size w wr)) (fun i _ => l.length - (intOf i).toNat)
 case atStart => exact ⟨0, rfl, hid ⟨zam _ _, Below.refl _ _⟩⟩
 case round =>
   obtain ⟨k, rfl, hh⟩ := hrel
   have hk := hh.out.1.2.1
   have hbs := hh.out.2.size
   by_cases hlt : k < l.length
   · have hlt3 : (k : Int) < (l.length : Int) := by omega
     obtain ⟨d, hd⟩ : ∃ d, l[k]? = some d := ⟨_, List.getElem?_eq_getElem hlt⟩
     obtain ⟨g, off, cap', he, hg, hc⟩ := HV.out.at_ (by decide) hd
     cases he
     have HE := hid (fun (W : World) (hb : Below wr.heap.size wr W) => hc W (hh.out.2.trans (hb.mono hbs)))
     have e0 : wr.cell? ⟨g, off + k * 3, none⟩ = some (.string d.name) := HE.out wr (Below.refl _ _) 0 (by decide)
     have hgr : g < wr.heap.size := by omega
     have HD := hid hd
     obtain ⟨b, hb⟩ : ∃ b, nameB d.name = b := ⟨_, rfl⟩
     have C := hid (fun W => zf1 d.name W (HS.out d (List.mem_of_getElem? HD.out)))
     rw [hb] at C
     have HB := hid hb
     clear hd hc hk hb
     cases b with
     | false =>
       have hst := hid (zad hh.out.1 HD.out (zo8 HB.out) (by decide))
       go_wp2_with fail
       refine (C.out _).mono ?_
       rintro e w1 ⟨rfl, rfl⟩
       go_wp2
       go_ret
       exact ⟨zab hst.out.symm, hh.out.2⟩
     | true =>
       go_wp2_with fail
       refine (C.out _).mono ?_
       rintro e w1 ⟨rfl, rfl⟩
       go_wp2
       go_loopw [4] (fun i wz => ∃ j : Nat, j ≤ k ∧ i = .int .i64 j ∧ Hid (((l.take j).any fun q => decide (q.name = d.name)) = false ∧ Below wr.heap.size wr wz)) (fun i _ => k - (intOf i).toNat)
       case atStart => exact ⟨0, Nat.zero_le _, rfl, hid ⟨rfl, Below.refl _ _⟩⟩
       case round =>
        obtain ⟨j, hj, rfl, hz⟩ := hrel
        have hzs := hz.out.2.size
        have HZB := hid (hh.out.2.trans (hz.out.2.mono hbs))
        by_cases hjk : j < k
        · have hjk3 : (j : Int) < (k : Int) := by omega
          have hjk4 : j < l.length := by omega
          have hjk5 : (j : Int) < (l.length : Int) := by omega
          obtain ⟨q, hq⟩ : ∃ q, l[j]? = some q := ⟨_, List.getElem?_eq_getElem hjk4⟩
          obtain ⟨g2, off2, cap2, he2, -, hc2⟩ := HV.out.at_ (by decide) hq
          cases he2
          have f0 := hc2 _ HZB.out 0 (by decide)
          have f1 := HE.out _ hz.out.2 0 (by decide)
          simp only [slotA, Nat.add_zero] at f0 f1
          have hse := zec q.name d.name
          have HQ := hid hq
          clear hc2 hq e0
          by_cases hqd : q.name = d.name
          · have hse1 : (q.name.toList == d.name.toList) = true := by rw [hse]; simpa using hqd
            have hst := hid (zad hh.out.1 HD.out (znh HB.out (by rw [List.any_eq_true]; exact ⟨q, List.mem_of_getElem? (by rw [List.getElem?_take_of_lt hjk]; exact HQ.out), by simpa using hqd⟩)) (by decide))
            clear hse hqd
            go_wp2
            go_quiet (fail)
            go_wp2
            go_ret
            exact ⟨zab hst.out.symm, by have := HZB.out; exact bel⟩
          have hse1 : (q.name.toList == d.name.toList) = false := by rw [hse]; simpa using hqd
          have hnx := hid (show ((l.take (j + 1)).any fun q => decide (q.name = d.name)) = false from by rw [zaf HQ.out, List.any_append, hz.out.1]; simpa using hqd)
          clear hse hqd
          go_wp2
          go_quiet (fail)
          go_wp2
          go_roundw
          case rel => exact ⟨j + 1, by omega, by go_num, hid ⟨hnx.out, by have := hz.out.2; exact bel⟩⟩
          case measure => simp [intOf]; omega
        obtain rfl : j = k := by omega
        have f1 := HE.out _ hz.out.2 1 (by decide)
        have f2 := HE.out _ hz.out.2 2 (by decide)
        simp only [slotA] at f1 f2
        have C1 := fun W => zde d.lo W
        have C2 := fun W => zde d.hi W
        obtain ⟨b1, hb1⟩ : ∃ b, levB d.lo = b := ⟨_, rfl⟩
        obtain ⟨b2, hb2⟩ : ∃ b, levB d.hi = b := ⟨_, rfl⟩
        rw [hb1] at C1
        rw [hb2] at C2
        have H1 := hid (fun W => (C1 W).mono fun _ _ h => (⟨h.1, h.2.symm⟩ : _ ∧ _))
        have H2 := hid (fun W => (C2 W).mono fun _ _ h => (⟨h.1, h.2.symm⟩ : _ ∧ _))
        have HB1 := hid hb1
        have HB2 := hid hb2
        clear C1 C2 hb1 hb2 e0
        cases b1 with
        | false =>
          have hst := hid (zad hh.out.1 HD.out (zgv HB.out hz.out.1 (.inl HB1.out)) (by decide))
          go_wp2
          go_quiet ((go_at_call 321; (first | (exact Calls.quiet_of_same (H1.out _)))))
          all_goals
            go_wp2
            go_ret
            exact ⟨zab hst.out.symm, by have := HZB.out; exact bel⟩
        | true =>
          cases b2 with
          | false =>
            have hst := hid (zad hh.out.1 HD.out (zgv HB.out hz.out.1 (.inr (.inl HB2.out))) (by decide))
            go_wp2
            go_quiet ((go_at_call 321; (first | (exact Calls.quiet_of_same (H1.out _)) | (exact Calls.quiet_of_same (H2.out _)))))
            all_goals
              go_wp2
              go_ret
              exact ⟨zab hst.out.symm, by have := HZB.out; exact bel⟩
          | true =>
            by_cases hlh : d.hi < d.lo
            · have hst := hid (zad hh.out.1 HD.out (zgv HB.out hz.out.1 (.inr (.inr hlh))) (by decide))
              go_wp2
              go_quiet ((go_at_call 321; (first | (exact Calls.quiet_of_same (H1.out _)) | (exact Calls.quiet_of_same (H2.out _)))))
              all_goals
               go_wp2
               go_ret
               exact ⟨zab hst.out.symm, by have := HZB.out; exact bel⟩
            by_cases hkz : j = 0
            · have hgo := hid (zah hh.out.1 HD.out (by subst hkz; exact zxm HB.out ⟨HB1.out, HB2.out, hlh⟩))
              have hkz2 : ¬ (0 : Int) < (j : Int) := by omega
              have hkz3 : decide (0 < j) = false := by simp; omega
              have hkz4 : decide ((0 : Int) < (j : Int)) = false := by simp; omega
              have hkz5 : ¬ 0 < j := by omega
              clear hkz
              go_wp2
              go_quiet ((go_at_call 321; (first | (exact Calls.quiet_of_same (H1.out _)) | (exact Calls.quiet_of_same (H2.out _)))))
              all_goals
               go_wp2
               go_quiet (fail)
               go_wp2
               go_roundw
               case rel => exact ⟨j + 1, by go_num, hid ⟨hgo.out, by have := HZB.out; exact bel⟩⟩
               case measure => simp [intOf]; omega
            obtain ⟨i, hi⟩ : ∃ i, j = i + 1 := ⟨j - 1, by omega⟩
            obtain ⟨q, hq⟩ : ∃ q, l[i]? = some q := ⟨_, List.getElem?_eq_getElem (by omega)⟩
            obtain ⟨g2, off2, cap2, he2, -, hc2⟩ := HV.out.at_ (by decide) hq
            cases he2
            have f3 := hc2 _ HZB.out 2 (by decide)
            simp only [slotA] at f3
            have hkz2 : (0 : Int) < (j : Int) := by omega
            have hkz5 : 0 < j := by omega
            have hk1 : (j : Int) - 1 = (i : Int) := by omega
            have hk2 : IntKind.i64.wrap ((j : Int) - 1) = (i : Int) := by rw [hk1]; exact IntWalk.i64_in _ (by omega)
            have hk3 : IntKind.i64.wrap (i : Int) = (i : Int) := IntWalk.i64_in _ (by omega)
            have hk5 : (0 : Int) ≤ (i : Int) := by omega
            have hk6 : (i : Int) < (l.length : Int) := by omega
            have hst := hid (fun (h : d.lo ≤ q.hi) => zad hh.out.1 HD.out (by have h2 := hz.out.1; subst hi; rw [ziy hq HB.out h2 ⟨HB1.out, HB2.out, hlh⟩, if_pos h]) (by decide : (9 : Int) ≠ 0))
            have hgo := hid (fun (h : ¬ d.lo ≤ q.hi) => zah hh.out.1 HD.out (by have h2 := hz.out.1; subst hi; rw [ziy hq HB.out h2 ⟨HB1.out, HB2.out, hlh⟩, if_neg h]))
            clear hi hq hc2 hkz
            by_cases ho : d.lo ≤ q.hi
            · have hs2 := hid (hst.out ho)
              go_wp2
              go_quiet ((go_at_call 321; (first | (exact Calls.quiet_of_same (H1.out _)) | (exact Calls.quiet_of_same (H2.out _)))))
              all_goals
               go_wp2
               go_quiet (fail)
               go_wp2
               go_ret
               exact ⟨zab hs2.out.symm, by have := HZB.out; exact bel⟩
            have hg2 := hid (hgo.out ho)
            go_wp2
            go_quiet ((go_at_call 321; (first | (exact Calls.quiet_of_same (H1.out _)) | (exact Calls.quiet_of_same (H2.out _)))))
            all_goals
              go_wp2
              go_quiet (fail)
              go_wp2
              go_roundw
              case rel => exact ⟨j + 1, by go_num, hid ⟨hg2.out, by have := HZB.out; exact bel⟩⟩
              case measure => simp [intOf]; omega
   obtain rfl : k = l.length := by omega
   have hen := hid (zan hh.out.1)
   go_wp2
   go_ret
   exact ⟨zab hen.out.symm, hh.out.2⟩
theorem zn5 (n : Int) (w : World) : Calls Tryz.prog 385 #[.int .i64 n] w fun e w' => e = .returned (.int .i64 (topB n)) ∧ w = w' := by
 by_cases h : n = 8
 · rw [topB, if_pos h]
   have h1 : (n == 8) = true := by simp [h]
   go_enter Tryz.func385, Tryz.ntmps385
   go_wp2
   go_ret
   exact ⟨rfl, rfl⟩
 rw [topB, if_neg h]
 have h1 : (n == 8) = false := by simp [h]
 go_enter Tryz.func385, Tryz.ntmps385
 go_wp2
 go_ret
 exact ⟨rfl, rfl⟩
theorem zwd (x : FeatD × Value) (w : World) (hx : RFeat w x) : Calls Tryz.prog 373 #[.agg (featA x)] w fun e w' => e = .returned (.int .i64 (insideE x.1)) ∧ Below w.heap.size w w' := by
 have hb2 : Below w.heap.size w (w.alloc (.cells (featA x) 161)) := bel
 have D := hid (fun (W : World) (hb : Below w.heap.size w W) => zo3 x.2 x.1.wheel W (hx.1.run hb) hx.2.2)
 have R0 := hid (And.intro hb2 (RowAt.new w 161 (featA x)))
 rw [zku]
 have hu : insX x.1 = if levB x.1.home = false ∨ x.1.low < 0 ∨ x.1.high < x.1.low ∨ topB x.1.bits < x.1.high then 2 else 0 := rfl
 generalize wheelE x.1.wheel = z at D ⊢
 generalize insX x.1 = u at hu ⊢
 have H1 := hid (fun W => zde x.1.home W)
 have H2 := hid (fun W => zn5 x.1.bits W)
 clear hb2 hx
 obtain ⟨⟨attr, bits, coarse, fine, curve, home, low, high, snap, wheel⟩, v⟩ := x
 simp only [featA] at R0 hu H1 H2 ⊢
 obtain ⟨t, ht⟩ : ∃ t, topB bits = t := ⟨_, rfl⟩
 obtain ⟨b, hb⟩ : ∃ b, levB home = b := ⟨_, rfl⟩
 rw [ht] at H2 hu
 rw [hb] at H1 hu
 clear ht hb
 cases b with
 | false =>
   obtain rfl : u = 2 := by rw [hu]; exact if_pos (.inl rfl)
   clear hu
   go_enter Tryz.func373, Tryz.ntmps373
   go_wp2
   go_quiet ((first | (go_at_call 321; exact zbu (H1.out _)) | (go_at_call 385; exact zbu (H2.out _))))
   go_wp2
   go_ret
   exact ⟨rfl, by have := R0.out.1; exact bel⟩
 | true =>
   by_cases c0 : low < 0
   · skip
     obtain rfl : u = 2 := by rw [hu]; exact if_pos (.inr (.inl c0))
     clear hu
     go_enter Tryz.func373, Tryz.ntmps373
     go_wp2
     go_quiet ((first | (go_at_call 321; exact zbu (H1.out _)) | (go_at_call 385; exact zbu (H2.out _))))
     go_wp2
     go_ret
     exact ⟨rfl, by have := R0.out.1; exact bel⟩
   by_cases c1 : high < low
   · skip
     obtain rfl : u = 2 := by rw [hu]; exact if_pos (.inr (.inr (.inl c1)))
     clear hu
     go_enter Tryz.func373, Tryz.ntmps373
     go_wp2
     go_quiet ((first | (go_at_call 321; exact zbu (H1.out _)) | (go_at_call 385; exact zbu (H2.out _))))
     go_wp2
     go_ret
     exact ⟨rfl, by have := R0.out.1; exact bel⟩
   by_cases c2 : t < high
   · skip
     obtain rfl : u = 2 := by rw [hu]; exact if_pos (.inr (.inr (.inr c2)))
     clear hu
     go_enter Tryz.func373, Tryz.ntmps373
     go_wp2
     go_quiet ((first | (go_at_call 321; exact zbu (H1.out _)) | (go_at_call 385; exact zbu (H2.out _))))
     go_wp2
     go_ret
     exact ⟨rfl, by have := R0.out.1; exact bel⟩
   obtain rfl : u = 0 := by rw [hu]; exact if_neg (by rintro (h | h | h | h); exact absurd h (by simp); exact c0 h; exact c1 h; exact c2 h)
   rw [if_neg (by simp)]
   clear hu
   go_enter Tryz.func373, Tryz.ntmps373
   go_wp2
   go_quiet ((first | (go_at_call 321; exact zbu (H1.out _)) | (go_at_call 385; exact zbu (H2.out _))))
   have hq : ∀ n, Below w.heap.size w ((w.alloc (.cells #[.int .i64 attr, .int .i64 bits, .int .i64 coarse, .int .i64 fine, .int .i64 curve, .int .i64 home, .int .i64 low, .int .i64 high, .bool snap, v] 161)).drewN n) := fun n => by have := R0.out.1; exact bel
   go_wp2_with fail
   refine (D.out _ (hq _)).mono ?_
   rintro e w1 ⟨rfl, hb1⟩
   have hbe := hid ((hq _).trans (hb1.mono (hq _).size))
   go_wp2
   go_ret
   exact ⟨rfl, hbe.out⟩
theorem zpv (x : FeatD × Value) (n : Int) (w : World) (hx : RFeat w x) : Calls Tryz.prog 354 #[.agg (featA x), .int .i64 n] w fun e w' => e = .returned (.int .i64 (innerE n x.1)) ∧ Below w.heap.size w w' := by
 have hb2 : Below w.heap.size w (w.alloc (.cells (featA x) 161)) := bel
 have C := hid (zwd x _ (za6 _ _ _ hb2 hx))
 have HB2 := hid hb2
 clear hb2 hx
 rw [innerE]
 generalize hu : insideE x.1 = u at C ⊢
 clear hu
 obtain ⟨⟨attr, bits, coarse, fine, curve, home, low, high, snap, wheel⟩, v⟩ := x
 simp only [featA] at C HB2 ⊢
 by_cases c0 : curve < 0
 · rw [if_pos (.inl c0)]
   go_enter Tryz.func354, Tryz.ntmps354
   go_wp2
   go_ret
   exact ⟨rfl, bel⟩
 by_cases c1 : n < curve
 · rw [if_pos (.inr c1)]
   go_enter Tryz.func354, Tryz.ntmps354
   go_wp2
   go_ret
   exact ⟨rfl, bel⟩
 rw [if_neg (by omega)]
 go_enter Tryz.func354, Tryz.ntmps354
 go_wp2_with fail
 refine C.out.mono ?_
 rintro e w1 ⟨rfl, hb1⟩
 go_wp2
 go_ret
 exact ⟨rfl, HB2.out.trans (hb1.mono HB2.out.size)⟩
theorem zna (v : Value) (l : List FeatD) (c : Int) (w : World) (hv : RL 10 featA RFeat w v l) :
  Calls Tryz.prog 352 #[v, .int .i64 c] w fun e w' => (∃ n, e = .returned (.int .i64 n) ∧ decide (0 ≤ n) = l.any fun q => decide (q.attr = c)) ∧ w = w' := by
 obtain ⟨a, cap, rfl⟩ := hv.shape
 have hml := hv.few
 have HV := hid hv
 clear hv
 go_enter Tryz.func352, Tryz.ntmps352
 go_wp2
 go_loopw [5] (fun i wr => ∃ k : Nat, k ≤ l.length ∧ i = .int .i64 k ∧ Hid ((l.take k).any (fun q => decide (q.attr = c)) = false) ∧ w = wr) (fun i _ => l.length - (intOf i).toNat)
 case atStart => exact ⟨0, Nat.zero_le _, rfl, hid rfl, rfl⟩
 case round =>
  obtain ⟨k, hk, rfl, hf, rfl⟩ := hrel
  by_cases hlt : k < l.length
  · have hlt3 : (k : Int) < (l.length : Int) := by omega
    obtain ⟨d, hd⟩ : ∃ d, l[k]? = some d := ⟨_, List.getElem?_eq_getElem hlt⟩
    obtain ⟨y, g, off, cap', he, hg, hc⟩ := HV.out.at_ (by decide) za6 hd
    cases he
    have e0 : w.cell? ⟨g, off + k * 10, none⟩ = some (.int .i64 d.attr) := (hc w (Below.refl _ _)).1 0 (by decide)
    have e1 : w.cell? ⟨g, off + k * 10 + 1, none⟩ = some (.int .i64 d.bits) := (hc w (Below.refl _ _)).1 1 (by decide)
    have e2 : w.cell? ⟨g, off + k * 10 + 2, none⟩ = some (.int .i64 d.coarse) := (hc w (Below.refl _ _)).1 2 (by decide)
    have e3 : w.cell? ⟨g, off + k * 10 + 3, none⟩ = some (.int .i64 d.fine) := (hc w (Below.refl _ _)).1 3 (by decide)
    have HD := hid hd
    have hall := hid (fun (h : (fun q => decide (q.attr = c)) d = true) => (show l.any (fun q => decide (q.attr = c)) = true from by rw [List.any_eq_true]; exact ⟨d, List.mem_of_getElem? HD.out, h⟩))
    have hnx := hid (fun (h : (fun q => decide (q.attr = c)) d = false) => (show (l.take (k + 1)).any (fun q => decide (q.attr = c)) = false from by rw [zaf HD.out, List.any_append, hf.out]; simpa using h))
    clear hd hc
    by_cases c0 : d.attr = c
    · skip
      have c1 : (d.attr == c) = true := by simp [c0]
      have ha := hid (hall.out (by simp [c0]))
      go_wp2
      go_ret
      exact ⟨⟨(k : Int), rfl, by rw [ha.out]; simp⟩, rfl⟩
    skip
    have c1 : (d.attr == c) = false := by simp [c0]
    have ha := hid (hnx.out (by simp [c0]))
    go_wp2
    go_roundw
    case rel => exact ⟨k + 1, by omega, by go_num, ha, by first | rfl | trivial⟩
    case measure => simp [intOf]; omega
  obtain rfl : k = l.length := by omega
  have hno := hid (show l.any (fun q => decide (q.attr = c)) = false from by have := hf.out; rwa [List.take_length] at this)
  go_wp2
  go_ret
  exact ⟨⟨-1, rfl, by rw [hno.out]; rfl⟩, rfl⟩
theorem zh9 (v : Value) (l : List FeatD) (c : Int) (w : World) (hv : RL 10 featA RFeat w v l) :
  Calls Tryz.prog 353 #[v, .int .i64 c] w fun e w' => e = .returned (.bool (usedB l c)) ∧ w = w' := by
 obtain ⟨a, cap, rfl⟩ := hv.shape
 have hml := hv.few
 have HV := hid hv
 clear hv
 go_enter Tryz.func353, Tryz.ntmps353
 go_wp2
 go_loopw [5] (fun i wr => ∃ k : Nat, k ≤ l.length ∧ i = .int .i64 k ∧ Hid ((l.take k).any (fun q => decide (q.coarse = c ∨ (q.bits = 16 ∧ q.fine = c))) = false) ∧ w = wr) (fun i _ => l.length - (intOf i).toNat)
 case atStart => exact ⟨0, Nat.zero_le _, rfl, hid rfl, rfl⟩
 case round =>
  obtain ⟨k, hk, rfl, hf, rfl⟩ := hrel
  by_cases hlt : k < l.length
  · have hlt3 : (k : Int) < (l.length : Int) := by omega
    obtain ⟨d, hd⟩ : ∃ d, l[k]? = some d := ⟨_, List.getElem?_eq_getElem hlt⟩
    obtain ⟨y, g, off, cap', he, hg, hc⟩ := HV.out.at_ (by decide) za6 hd
    cases he
    have e0 : w.cell? ⟨g, off + k * 10, none⟩ = some (.int .i64 d.attr) := (hc w (Below.refl _ _)).1 0 (by decide)
    have e1 : w.cell? ⟨g, off + k * 10 + 1, none⟩ = some (.int .i64 d.bits) := (hc w (Below.refl _ _)).1 1 (by decide)
    have e2 : w.cell? ⟨g, off + k * 10 + 2, none⟩ = some (.int .i64 d.coarse) := (hc w (Below.refl _ _)).1 2 (by decide)
    have e3 : w.cell? ⟨g, off + k * 10 + 3, none⟩ = some (.int .i64 d.fine) := (hc w (Below.refl _ _)).1 3 (by decide)
    have HD := hid hd
    have hall := hid (fun (h : (fun q => decide (q.coarse = c ∨ (q.bits = 16 ∧ q.fine = c))) d = true) => (show l.any (fun q => decide (q.coarse = c ∨ (q.bits = 16 ∧ q.fine = c))) = true from by rw [List.any_eq_true]; exact ⟨d, List.mem_of_getElem? HD.out, h⟩))
    have hnx := hid (fun (h : (fun q => decide (q.coarse = c ∨ (q.bits = 16 ∧ q.fine = c))) d = false) => (show (l.take (k + 1)).any (fun q => decide (q.coarse = c ∨ (q.bits = 16 ∧ q.fine = c))) = false from by rw [zaf HD.out, List.any_append, hf.out]; simpa using h))
    clear hd hc
    by_cases c0 : d.coarse = c
    · skip
      have c1 : (d.coarse == c) = true := by simp [c0]
      have ha := hid (hall.out (by simp [c0]))
      go_wp2
      go_ret
      exact ⟨zac (by rw [usedB]; exact ha.out.symm), rfl⟩
    have c1 : (d.coarse == c) = false := by simp [c0]
    by_cases c2 : d.bits = 16
    · have c3 : (d.bits == 16) = true := by simp [c2]
      by_cases c4 : d.fine = c
      · skip
        have c5 : (d.fine == c) = true := by simp [c4]
        have ha := hid (hall.out (by simp [c0, c2, c4]))
        go_wp2
        go_ret
        exact ⟨zac (by rw [usedB]; exact ha.out.symm), rfl⟩
      skip
      have c5 : (d.fine == c) = false := by simp [c4]
      have ha := hid (hnx.out (by simp [c0, c2, c4]))
      go_wp2
      go_roundw
      case rel => exact ⟨k + 1, by omega, by go_num, ha, by first | rfl | trivial⟩
      case measure => simp [intOf]; omega
    skip
    have c3 : (d.bits == 16) = false := by simp [c2]
    have ha := hid (hnx.out (by simp [c0, c2]))
    go_wp2
    go_roundw
    case rel => exact ⟨k + 1, by omega, by go_num, ha, by first | rfl | trivial⟩
    case measure => simp [intOf]; omega
  obtain rfl : k = l.length := by omega
  have hno := hid (show l.any (fun q => decide (q.coarse = c ∨ (q.bits = 16 ∧ q.fine = c))) = false from by have := hf.out; rwa [List.take_length] at this)
  go_wp2
  go_ret
  exact ⟨zac (by rw [usedB]; exact hno.out.symm), rfl⟩
theorem zo2 (pd : ProfD × Value) (n : Int) (k : Nat) (d : FeatD) (w : World) (hy : RProf w pd) (hk : pd.1.feats[k]? = some d) :
   Calls Tryz.prog 323 #[.agg (profA pd), .int .i64 k, .int .i64 n] w fun e w' => e = .returned (.int .i64 (featE pd.1.foot n (pd.1.feats.take k) d)) ∧ Below w.heap.size w w' := by
 obtain ⟨⟨pname, foot, watts, l⟩, fv⟩ := pd
 obtain ⟨hrl, hcap, -⟩ := hy
 simp only at hrl hcap hk ⊢
 obtain ⟨a, cap, rfl⟩ := hrl.shape
 have hml := hrl.few
 have hlc := hcap _ _ _ rfl
 have hlt := (List.getElem?_eq_some_iff.1 hk).1
 obtain ⟨y, g, off, cap', he, hg, hcc⟩ := hrl.at_ (by decide) za6 hk
 cases he
 have hb0 : Below w.heap.size w (w.alloc (.cells #[.string pname, .int .i64 foot, .int .i64 watts, .slice (some ⟨g, off, none⟩) l.length cap] 89)) := bel
 have hrf := (hcc w (Below.refl _ _)).2
 have hys : ∃ a c, y = .slice a d.wheel.length c := hrf.1.shape
 obtain ⟨ya, yc, rfl⟩ := hys
 obtain ⟨hcl, -⟩ := hcc (w.alloc (.cells #[.string pname, .int .i64 foot, .int .i64 watts, .slice (some ⟨g, off, none⟩) l.length cap] 89)) hb0
 obtain ⟨r, hr⟩ : ∃ r, featE foot n (l.take k) d = r := ⟨_, rfl⟩
 rw [hr]
 simp only [profA]
 have A := hid (fun (W : World) (hb : Below w.heap.size w W) => zna _ (l.take k) d.attr W ((hrl.take (k := k) (by omega)).run za6 hb))
 have U1 := hid (fun (W : World) (hb : Below w.heap.size w W) => zh9 _ (l.take k) d.coarse W ((hrl.take (k := k) (by omega)).run za6 hb))
 have U2 := hid (fun (W : World) (hb : Below w.heap.size w W) => zh9 _ (l.take k) d.fine W ((hrl.take (k := k) (by omega)).run za6 hb))
 have I := hid (fun (W : World) (hb : Below w.heap.size w W) => zpv (d, .slice ya d.wheel.length yc) n W (za6 _ _ _ hb hrf))
 obtain ⟨z, hz⟩ : ∃ z, innerE n d = z := ⟨_, rfl⟩
 simp only [hz] at I
 have HZ := hid hz
 have HR := hid hr
 obtain ⟨attr, bits, coarse, fine, curve, home, low, high, snap, wheel⟩ := d
 simp only [featA] at I hcl A U1 U2
 have e0 : (w.alloc (.cells #[.string pname, .int .i64 foot, .int .i64 watts, .slice (some ⟨g, off, none⟩) l.length cap] 89)).cell? ⟨g, off + k * 10, none⟩ = some (.int .i64 attr) := hcl 0 (by decide)
 have e1 : (w.alloc (.cells #[.string pname, .int .i64 foot, .int .i64 watts, .slice (some ⟨g, off, none⟩) l.length cap] 89)).cell? ⟨g, off + k * 10 + 1, none⟩ = some (.int .i64 bits) := hcl 1 (by decide)
 have e2 : (w.alloc (.cells #[.string pname, .int .i64 foot, .int .i64 watts, .slice (some ⟨g, off, none⟩) l.length cap] 89)).cell? ⟨g, off + k * 10 + 2, none⟩ = some (.int .i64 coarse) := hcl 2 (by decide)
 have e3 : (w.alloc (.cells #[.string pname, .int .i64 foot, .int .i64 watts, .slice (some ⟨g, off, none⟩) l.length cap] 89)).cell? ⟨g, off + k * 10 + 3, none⟩ = some (.int .i64 fine) := hcl 3 (by decide)
 have e4 : (w.alloc (.cells #[.string pname, .int .i64 foot, .int .i64 watts, .slice (some ⟨g, off, none⟩) l.length cap] 89)).cell? ⟨g, off + k * 10 + 4, none⟩ = some (.int .i64 curve) := hcl 4 (by decide)
 have e5 : (w.alloc (.cells #[.string pname, .int .i64 foot, .int .i64 watts, .slice (some ⟨g, off, none⟩) l.length cap] 89)).cell? ⟨g, off + k * 10 + 5, none⟩ = some (.int .i64 home) := hcl 5 (by decide)
 have e6 : (w.alloc (.cells #[.string pname, .int .i64 foot, .int .i64 watts, .slice (some ⟨g, off, none⟩) l.length cap] 89)).cell? ⟨g, off + k * 10 + 6, none⟩ = some (.int .i64 low) := hcl 6 (by decide)
 have e7 : (w.alloc (.cells #[.string pname, .int .i64 foot, .int .i64 watts, .slice (some ⟨g, off, none⟩) l.length cap] 89)).cell? ⟨g, off + k * 10 + 7, none⟩ = some (.int .i64 high) := hcl 7 (by decide)
 have e8 : (w.alloc (.cells #[.string pname, .int .i64 foot, .int .i64 watts, .slice (some ⟨g, off, none⟩) l.length cap] 89)).cell? ⟨g, off + k * 10 + 8, none⟩ = some (.bool snap) := hcl 8 (by decide)
 have e9 : (w.alloc (.cells #[.string pname, .int .i64 foot, .int .i64 watts, .slice (some ⟨g, off, none⟩) l.length cap] 89)).cell? ⟨g, off + k * 10 + 9, none⟩ = some (.slice ya wheel.length yc) := hcl 9 (by decide)
 have r0 := zaa (RowAt.new w 89 #[.string pname, .int .i64 foot, .int .i64 watts, .slice (some ⟨g, off, none⟩) l.length cap])
 have hlt3 : (k : Int) < (l.length : Int) := by omega
 have hlt4 : (k : Int) ≤ (cap : Int) := by omega
 have hlt5 : k ≤ cap := by omega
 have hlt6 : (0 : Int) ≤ (k : Int) := by omega
 have p3 := r0.1 3
 have p1 := r0.1 1
 simp at p3 p1
 have hgn : ¬ g = w.heap.size := by omega
 have hgn1 : ¬ g = w.heap.size + 1 := by omega
 have hgn2 : ¬ w.heap.size + 1 = g := by omega
 clear hcc hcl hrl hrf hz hr r0 hk
 obtain ⟨b7, hb7⟩ : ∃ b, ((l.take k).any fun q => decide (q.attr = attr)) = b := ⟨_, rfl⟩
 obtain ⟨u1, hu1⟩ : ∃ b, usedB (l.take k) coarse = b := ⟨_, rfl⟩
 obtain ⟨u2, hu2⟩ : ∃ b, usedB (l.take k) fine = b := ⟨_, rfl⟩
 rw [hb7] at A
 rw [hu1] at U1
 rw [hu2] at U2
 have HB := hid hb7
 have HU1 := hid hu1
 have HU2 := hid hu2
 clear hb7 hu1 hu2
 go_enter Tryz.func323, Tryz.ntmps323
 go_wp2
 go_region_held3 (fun w' => w'.cell? ⟨w.heap.size, 3, none⟩ = some (.slice (some ⟨g, off, none⟩) l.length cap) ∧ w'.cell? ⟨g, off + k * 10, none⟩ = some (.int .i64 attr) ∧ w'.cell? ⟨g, off + k * 10 + 1, none⟩ = some (.int .i64 bits) ∧ w'.cell? ⟨g, off + k * 10 + 2, none⟩ = some (.int .i64 coarse) ∧ w'.cell? ⟨g, off + k * 10 + 3, none⟩ = some (.int .i64 fine) ∧ w'.cell? ⟨g, off + k * 10 + 4, none⟩ = some (.int .i64 curve) ∧ w'.cell? ⟨g, off + k * 10 + 5, none⟩ = some (.int .i64 home) ∧ w'.cell? ⟨g, off + k * 10 + 6, none⟩ = some (.int .i64 low) ∧ w'.cell? ⟨g, off + k * 10 + 7, none⟩ = some (.int .i64 high) ∧ w'.cell? ⟨g, off + k * 10 + 8, none⟩ = some (.bool snap) ∧ w'.cell? ⟨g, off + k * 10 + 9, none⟩ = some (.slice ya wheel.length yc)) (go_keep) (fail)
 clear e0 e1 e2 e3 e4 e5 e6 e7 e8 e9 p3 p1
 have HQ := hid (show Below w.heap.size w (((w.alloc (.cells #[.string pname, .int .i64 foot, .int .i64 watts, .slice (some ⟨g, off, none⟩) l.length cap] 89)).alloc (.cells #[.int .i64 attr, .int .i64 bits, .int .i64 coarse, .int .i64 fine, .int .i64 curve, .int .i64 home, .int .i64 low, .int .i64 high, .bool snap, .slice ya wheel.length yc] 161)).drew) from bel)
 by_cases c0 : attr < 0
 · skip
   go_wp2
   go_ret
   exact ⟨zab (by have h := HR.out; unfold featE at h; dsimp only at h; rw [if_pos (show (attr < 0 ∨ 15 ≤ attr) from by omega)] at h; exact h), bel⟩
 by_cases c1 : 15 ≤ attr
 · skip
   go_wp2
   go_ret
   exact ⟨zab (by have h := HR.out; unfold featE at h; dsimp only at h; rw [if_pos (show (attr < 0 ∨ 15 ≤ attr) from by omega)] at h; exact h), bel⟩
 go_wp2_with fail
 refine (A.out _ bel).mono ?_
 rintro e w1 ⟨⟨m, rfl, hm⟩, rfl⟩
 cases b7 with
 | true =>
   have hm2 : 0 ≤ m := by simpa using hm
   clear hm
   go_wp2
   go_ret
   exact ⟨zab (by have h := HR.out; unfold featE at h; dsimp only at h; rw [if_neg (show ¬ (attr < 0 ∨ 15 ≤ attr) from by omega), if_pos (show (((l.take k).any fun q => decide (q.attr = attr)) = true) from HB.out)] at h; exact h), bel⟩
 | false =>
   have hm2 : ¬ 0 ≤ m := by simpa using hm
   clear hm
   by_cases c8 : bits = 8
   · subst c8
     by_cases c2 : coarse < 0
     · skip
       go_wp2
       go_ret
       exact ⟨zab (by have h := HR.out; unfold featE at h; dsimp only at h; rw [if_neg (show ¬ (attr < 0 ∨ 15 ≤ attr) from by omega), if_neg (show ¬ (((l.take k).any fun q => decide (q.attr = attr)) = true) from by rw [HB.out]; decide), if_neg (show ¬ ((8 : Int) ≠ 8 ∧ (8 : Int) ≠ 16) from by omega), if_pos (show (coarse < 0 ∨ foot ≤ coarse ∨ (8 : Int) = 16 ∧ (fine < 0 ∨ foot ≤ fine)) from by omega)] at h; exact h), bel⟩
     by_cases c3 : foot ≤ coarse
     · skip
       go_wp2
       go_ret
       exact ⟨zab (by have h := HR.out; unfold featE at h; dsimp only at h; rw [if_neg (show ¬ (attr < 0 ∨ 15 ≤ attr) from by omega), if_neg (show ¬ (((l.take k).any fun q => decide (q.attr = attr)) = true) from by rw [HB.out]; decide), if_neg (show ¬ ((8 : Int) ≠ 8 ∧ (8 : Int) ≠ 16) from by omega), if_pos (show (coarse < 0 ∨ foot ≤ coarse ∨ (8 : Int) = 16 ∧ (fine < 0 ∨ foot ≤ fine)) from by omega)] at h; exact h), bel⟩
     by_cases cf : fine = 0
     · subst cf
       cases u1 with
       | true =>
         go_wp2_with fail
         refine (U1.out _ bel).mono ?_
         rintro e w1 ⟨rfl, rfl⟩
         go_wp2
         go_ret
         exact ⟨zab (by have h := HR.out; unfold featE at h; dsimp only at h; rw [if_neg (show ¬ (attr < 0 ∨ 15 ≤ attr) from by omega), if_neg (show ¬ (((l.take k).any fun q => decide (q.attr = attr)) = true) from by rw [HB.out]; decide), if_neg (show ¬ ((8 : Int) ≠ 8 ∧ (8 : Int) ≠ 16) from by omega), if_neg (show ¬ (coarse < 0 ∨ foot ≤ coarse ∨ (8 : Int) = 16 ∧ ((0 : Int) < 0 ∨ foot ≤ (0 : Int))) from by omega), if_neg (show ¬ ((8 : Int) = 8 ∧ (0 : Int) ≠ 0) from by omega), if_pos (show (usedB (l.take k) coarse = true ∨ (8 : Int) = 16 ∧ (usedB (l.take k) (0 : Int) = true ∨ (0 : Int) = coarse)) from .inl HU1.out)] at h; exact h), bel⟩
       | false =>
         go_wp2_with fail
         refine (U1.out _ bel).mono ?_
         rintro e w1 ⟨rfl, rfl⟩
         go_wp2_with fail
         have hq := HQ.out
         refine (I.out _ bel).mono ?_
         rintro e w3 ⟨rfl, hb3⟩
         go_wp2
         go_ret
         exact ⟨zab (by have h := HR.out; unfold featE at h; dsimp only at h; rw [if_neg (show ¬ (attr < 0 ∨ 15 ≤ attr) from by omega), if_neg (show ¬ (((l.take k).any fun q => decide (q.attr = attr)) = true) from by rw [HB.out]; decide), if_neg (show ¬ ((8 : Int) ≠ 8 ∧ (8 : Int) ≠ 16) from by omega), if_neg (show ¬ (coarse < 0 ∨ foot ≤ coarse ∨ (8 : Int) = 16 ∧ ((0 : Int) < 0 ∨ foot ≤ (0 : Int))) from by omega), if_neg (show ¬ ((8 : Int) = 8 ∧ (0 : Int) ≠ 0) from by omega), if_neg (show ¬ (usedB (l.take k) coarse = true ∨ (8 : Int) = 16 ∧ (usedB (l.take k) (0 : Int) = true ∨ (0 : Int) = coarse)) from by rw [HU1.out]; simp)] at h; exact HZ.out.symm.trans h), by have := HQ.out; exact bel⟩
     have cf1 : (fine != 0) = true := by simp [cf]
     go_wp2
     go_ret
     exact ⟨zab (by have h := HR.out; unfold featE at h; dsimp only at h; rw [if_neg (show ¬ (attr < 0 ∨ 15 ≤ attr) from by omega), if_neg (show ¬ (((l.take k).any fun q => decide (q.attr = attr)) = true) from by rw [HB.out]; decide), if_neg (show ¬ ((8 : Int) ≠ 8 ∧ (8 : Int) ≠ 16) from by omega), if_neg (show ¬ (coarse < 0 ∨ foot ≤ coarse ∨ (8 : Int) = 16 ∧ (fine < 0 ∨ foot ≤ fine)) from by omega), if_pos (show ((8 : Int) = 8 ∧ fine ≠ 0) from by omega)] at h; exact h), bel⟩
   by_cases c16 : bits = 16
   · subst c16
     by_cases c2 : coarse < 0
     · skip
       go_wp2
       go_ret
       exact ⟨zab (by have h := HR.out; unfold featE at h; dsimp only at h; rw [if_neg (show ¬ (attr < 0 ∨ 15 ≤ attr) from by omega), if_neg (show ¬ (((l.take k).any fun q => decide (q.attr = attr)) = true) from by rw [HB.out]; decide), if_neg (show ¬ ((16 : Int) ≠ 8 ∧ (16 : Int) ≠ 16) from by omega), if_pos (show (coarse < 0 ∨ foot ≤ coarse ∨ (16 : Int) = 16 ∧ (fine < 0 ∨ foot ≤ fine)) from by omega)] at h; exact h), bel⟩
     by_cases c3 : foot ≤ coarse
     · skip
       go_wp2
       go_ret
       exact ⟨zab (by have h := HR.out; unfold featE at h; dsimp only at h; rw [if_neg (show ¬ (attr < 0 ∨ 15 ≤ attr) from by omega), if_neg (show ¬ (((l.take k).any fun q => decide (q.attr = attr)) = true) from by rw [HB.out]; decide), if_neg (show ¬ ((16 : Int) ≠ 8 ∧ (16 : Int) ≠ 16) from by omega), if_pos (show (coarse < 0 ∨ foot ≤ coarse ∨ (16 : Int) = 16 ∧ (fine < 0 ∨ foot ≤ fine)) from by omega)] at h; exact h), bel⟩
     by_cases c4 : fine < 0
     · skip
       go_wp2
       go_ret
       exact ⟨zab (by have h := HR.out; unfold featE at h; dsimp only at h; rw [if_neg (show ¬ (attr < 0 ∨ 15 ≤ attr) from by omega), if_neg (show ¬ (((l.take k).any fun q => decide (q.attr = attr)) = true) from by rw [HB.out]; decide), if_neg (show ¬ ((16 : Int) ≠ 8 ∧ (16 : Int) ≠ 16) from by omega), if_pos (show (coarse < 0 ∨ foot ≤ coarse ∨ (16 : Int) = 16 ∧ (fine < 0 ∨ foot ≤ fine)) from by omega)] at h; exact h), bel⟩
     by_cases c5 : foot ≤ fine
     · skip
       go_wp2
       go_ret
       exact ⟨zab (by have h := HR.out; unfold featE at h; dsimp only at h; rw [if_neg (show ¬ (attr < 0 ∨ 15 ≤ attr) from by omega), if_neg (show ¬ (((l.take k).any fun q => decide (q.attr = attr)) = true) from by rw [HB.out]; decide), if_neg (show ¬ ((16 : Int) ≠ 8 ∧ (16 : Int) ≠ 16) from by omega), if_pos (show (coarse < 0 ∨ foot ≤ coarse ∨ (16 : Int) = 16 ∧ (fine < 0 ∨ foot ≤ fine)) from by omega)] at h; exact h), bel⟩
     cases u1 with
     | true =>
       go_wp2_with fail
       refine (U1.out _ bel).mono ?_
       rintro e w1 ⟨rfl, rfl⟩
       go_wp2
       go_ret
       exact ⟨zab (by have h := HR.out; unfold featE at h; dsimp only at h; rw [if_neg (show ¬ (attr < 0 ∨ 15 ≤ attr) from by omega), if_neg (show ¬ (((l.take k).any fun q => decide (q.attr = attr)) = true) from by rw [HB.out]; decide), if_neg (show ¬ ((16 : Int) ≠ 8 ∧ (16 : Int) ≠ 16) from by omega), if_neg (show ¬ (coarse < 0 ∨ foot ≤ coarse ∨ (16 : Int) = 16 ∧ (fine < 0 ∨ foot ≤ fine)) from by omega), if_neg (show ¬ ((16 : Int) = 8 ∧ fine ≠ 0) from by omega), if_pos (show (usedB (l.take k) coarse = true ∨ (16 : Int) = 16 ∧ (usedB (l.take k) fine = true ∨ fine = coarse)) from .inl HU1.out)] at h; exact h), bel⟩
     | false =>
       cases u2 with
       | true =>
         go_wp2_with fail
         refine (U1.out _ bel).mono ?_
         rintro e w1 ⟨rfl, rfl⟩
         go_wp2_with fail
         refine (U2.out _ bel).mono ?_
         rintro e w1 ⟨rfl, rfl⟩
         go_wp2
         go_ret
         exact ⟨zab (by have h := HR.out; unfold featE at h; dsimp only at h; rw [if_neg (show ¬ (attr < 0 ∨ 15 ≤ attr) from by omega), if_neg (show ¬ (((l.take k).any fun q => decide (q.attr = attr)) = true) from by rw [HB.out]; decide), if_neg (show ¬ ((16 : Int) ≠ 8 ∧ (16 : Int) ≠ 16) from by omega), if_neg (show ¬ (coarse < 0 ∨ foot ≤ coarse ∨ (16 : Int) = 16 ∧ (fine < 0 ∨ foot ≤ fine)) from by omega), if_neg (show ¬ ((16 : Int) = 8 ∧ fine ≠ 0) from by omega), if_pos (show (usedB (l.take k) coarse = true ∨ (16 : Int) = 16 ∧ (usedB (l.take k) fine = true ∨ fine = coarse)) from .inr ⟨rfl, .inl HU2.out⟩)] at h; exact h), bel⟩
       | false =>
         by_cases cc : fine = coarse
         · subst cc
           go_wp2_with fail
           refine (U1.out _ bel).mono ?_
           rintro e w1 ⟨rfl, rfl⟩
           go_wp2_with fail
           refine (U2.out _ bel).mono ?_
           rintro e w1 ⟨rfl, rfl⟩
           go_wp2
           go_ret
           exact ⟨zab (by have h := HR.out; unfold featE at h; dsimp only at h; rw [if_neg (show ¬ (attr < 0 ∨ 15 ≤ attr) from by omega), if_neg (show ¬ (((l.take k).any fun q => decide (q.attr = attr)) = true) from by rw [HB.out]; decide), if_neg (show ¬ ((16 : Int) ≠ 8 ∧ (16 : Int) ≠ 16) from by omega), if_neg (show ¬ (fine < 0 ∨ foot ≤ fine ∨ (16 : Int) = 16 ∧ (fine < 0 ∨ foot ≤ fine)) from by omega), if_neg (show ¬ ((16 : Int) = 8 ∧ fine ≠ 0) from by omega), if_pos (show (usedB (l.take k) fine = true ∨ (16 : Int) = 16 ∧ (usedB (l.take k) fine = true ∨ fine = fine)) from .inr ⟨rfl, .inr rfl⟩)] at h; exact h), bel⟩
         have cc1 : (fine == coarse) = false := by simp [cc]
         go_wp2_with fail
         refine (U1.out _ bel).mono ?_
         rintro e w1 ⟨rfl, rfl⟩
         go_wp2_with fail
         refine (U2.out _ bel).mono ?_
         rintro e w1 ⟨rfl, rfl⟩
         go_wp2_with fail
         have hq := HQ.out
         refine (I.out _ bel).mono ?_
         rintro e w3 ⟨rfl, hb3⟩
         go_wp2
         go_ret
         exact ⟨zab (by have h := HR.out; unfold featE at h; dsimp only at h; rw [if_neg (show ¬ (attr < 0 ∨ 15 ≤ attr) from by omega), if_neg (show ¬ (((l.take k).any fun q => decide (q.attr = attr)) = true) from by rw [HB.out]; decide), if_neg (show ¬ ((16 : Int) ≠ 8 ∧ (16 : Int) ≠ 16) from by omega), if_neg (show ¬ (coarse < 0 ∨ foot ≤ coarse ∨ (16 : Int) = 16 ∧ (fine < 0 ∨ foot ≤ fine)) from by omega), if_neg (show ¬ ((16 : Int) = 8 ∧ fine ≠ 0) from by omega), if_neg (show ¬ (usedB (l.take k) coarse = true ∨ (16 : Int) = 16 ∧ (usedB (l.take k) fine = true ∨ fine = coarse)) from by rw [HU1.out, HU2.out]; simp [cc])] at h; exact HZ.out.symm.trans h), by have := HQ.out; exact bel⟩
   have q1 : (bits != 8) = true := by simp [c8]
   have q2 : (bits != 16) = true := by simp [c16]
   go_wp2
   go_ret
   exact ⟨zab (by have h := HR.out; unfold featE at h; dsimp only at h; rw [if_neg (show ¬ (attr < 0 ∨ 15 ≤ attr) from by omega), if_neg (show ¬ (((l.take k).any fun q => decide (q.attr = attr)) = true) from by rw [HB.out]; decide), if_pos (show (bits ≠ 8 ∧ bits ≠ 16) from by omega)] at h; exact h), bel⟩
end Go.Proofs.YtjeigphhepngmaaGreatDoor
