/- -/
import Derived.Test.YtjeigphhepngmaaGreatDoorJm
import Derived.Shelf.Abstract
import Derived.Laws.EntriesVeiled
namespace Go.Proofs.YtjeigphhepngmaaGreatDoor
open Go.RowKit
open Go.Lib (hid)
set_option maxHeartbeats 8000000
set_option maxRecDepth 100000
theorem zqg {d : SubD} (h : subE d = 0) : 1 ≤ d.num := by
 unfold subE at h
 split at h
 · cases h
 omega
def lastN (p : List SubD) : Int := match p.getLast? with | none => 0 | some q => q.num
theorem zr1 {p : List SubD} {d : SubD} (h : subE d = 0) : tabE subE SubD.num p d = if d.num ≤ lastN p then 9 else 0 := by
 have h1 := zqg h
 rw [tabE, if_neg (by rw [h]; decide), lastN]
 cases p.getLast? with
 | none => simp only; rw [if_neg (by omega)]
 | some q => rfl
theorem zl0 {l : List SubD} {k : Nat} {d : SubD} (h : l[k]? = some d) : lastN (l.take (k + 1)) = d.num := by rw [lastN, zbs h]
theorem zn6 (v : Value) (l : List SubD) (w : World) (hv : RL 4 subA RSub w v l) :
   Calls Tryz.prog 194 #[v] w fun e w' => e = .returned (.int .i64 (subsE l)) ∧ Below w.heap.size w w' := by
 obtain ⟨a, cap, rfl⟩ := hv.shape
 have hml := hv.few
 by_cases h4 : 16 < l.length
 · have h5 : (16 : Int) < (l.length : Int) := by omega
   rw [subsE, if_pos h4]
   clear hv
   go_enter Tryz.func194, Tryz.ntmps194
   go_wp2
   go_ret
   exact ⟨rfl, bel⟩
 have h5 : ¬ (16 : Int) < (l.length : Int) := by omega
 rw [subsE, if_neg h4]
 have HV := hid hv
 clear hv h4
 go_enter Tryz.func194, Tryz.ntmps194
 go_wp2
 go_loopw [3, 5, 12] (fun z _ i wr => ∃ k : Nat, i = .int .i64 k ∧ z = .int .i64 (lastN (l.take k)) ∧ Hid (LoopB (tabE subE SubD.num) l k ∧ Below w.heap.size w wr)) (fun _ _ i _ => l.length - (intOf i).toNat)
 case atStart => exact ⟨0, rfl, rfl, hid ⟨zam _ _, Below.refl _ _⟩⟩
 case round =>
   obtain ⟨k, rfl, rfl, hh⟩ := hrel
   have hk := hh.out.1.2.1
   have hbs := hh.out.2.size
   by_cases hlt : k < l.length
   · have hlt3 : (k : Int) < (l.length : Int) := by omega
     obtain ⟨d, hd⟩ : ∃ d, l[k]? = some d := ⟨_, List.getElem?_eq_getElem hlt⟩
     obtain ⟨y, g, off, cap', he, hg, hc⟩ := HV.out.at_ (by decide) zbm hd
     cases he
     have HE := hid (fun (W : World) (hb : Below wr.heap.size wr W) => hc W (hh.out.2.trans (hb.mono hbs)))
     obtain ⟨ya, yn, yc, rfl⟩ := zjr (HE.out wr (Below.refl _ _)).2
     have e0 : wr.cell? ⟨g, off + k * 4, none⟩ = some (.int .i64 d.num) := (HE.out wr (Below.refl _ _)).1 0 (by decide)
     have e1 : wr.cell? ⟨g, off + k * 4 + 1, none⟩ = some (.int .i64 d.pri) := (HE.out wr (Below.refl _ _)).1 1 (by decide)
     have e2 : wr.cell? ⟨g, off + k * 4 + 2, none⟩ = some (.bool d.inh) := (HE.out wr (Below.refl _ _)).1 2 (by decide)
     have e3 : wr.cell? ⟨g, off + k * 4 + 3, none⟩ = some (.slice ya yn yc) := (HE.out wr (Below.refl _ _)).1 3 (by decide)
     have hgr : g < wr.heap.size := by omega
     have hgn : ¬ g = wr.heap.size := by omega
     obtain ⟨x, hx⟩ : ∃ x, subE d = x := ⟨_, rfl⟩
     have hal : Below wr.heap.size wr (wr.alloc (.cells #[.int .i64 d.num, .int .i64 d.pri, .bool d.inh, .slice ya yn yc] 153)) := bel
     have C := zom d _ (wr.alloc (.cells #[.int .i64 d.num, .int .i64 d.pri, .bool d.inh, .slice ya yn yc] 153)) (HE.out _ hal).2
     rw [hx] at C
     have HC := hid C
     have HX := hid hx
     have HD := hid hd
     clear hd hc hk hx C hal
     by_cases hx0 : x = 0
     · subst hx0
       have hte := hid (zr1 (p := l.take k) HX.out)
       have hls := hid (zl0 HD.out)
       obtain ⟨n, hn⟩ : ∃ n, lastN (l.take k) = n := ⟨_, rfl⟩
       rw [hn] at hte ⊢
       clear hn
       go_wp2_with fail
       refine HC.out.mono ?_
       rintro e w1 ⟨rfl, hb1⟩
       have hb9 : Below wr.heap.size wr w1 := bel
       have r1 : RowAt w1 wr.heap.size 153 #[.int .i64 d.num, .int .i64 d.pri, .bool d.inh, .slice ya yn yc] := (RowAt.new wr _ _).run hb1
       have z0 := (zaa r1).1 0
       simp at z0
       have hbw := hid (hh.out.2.trans (hb9.mono hbs))
       clear e0 e1 e2 e3 hb1 hb9 r1
       by_cases ho : d.num ≤ n
       · have hst := hid (zad hh.out.1 HD.out (hte.out.trans (if_pos ho)) (by decide))
         go_wp2
         go_ret
         exact ⟨zab hst.out.symm, hbw.out⟩
       have hgo := hid (zah hh.out.1 HD.out (hte.out.trans (if_neg ho)))
       go_wp2
       go_roundw
       case rel => exact ⟨k + 1, by go_num, by rw [hls.out], hid ⟨hgo.out, hbw.out⟩⟩
       case measure => simp [intOf]; omega
     have hx1 : (x == 0) = false := by simpa using hx0
     have hst := hid (zad hh.out.1 HD.out (zcf HX.out hx0) hx0)
     go_wp2_with fail
     refine HC.out.mono ?_
     rintro e w1 ⟨rfl, hb1⟩
     have hb9 : Below wr.heap.size wr w1 := bel
     go_wp2
     go_ret
     exact ⟨zab hst.out.symm, hh.out.2.trans (hb9.mono hbs)⟩
   obtain rfl : k = l.length := by omega
   have hen := hid (zan hh.out.1)
   go_wp2
   go_ret
   exact ⟨zab hen.out.symm, hh.out.2⟩
theorem zq6 (d : EffD) (v : Value) (w : World) (hr : REff w (d, v)) :
   Calls Tryz.prog 274 #[.agg #[.int .i64 d.num, .int .i64 d.attr, v, .int .i64 d.per, .int .i64 d.spr, .int .i64 d.size]] w fun e w' => e = .returned (.int .i64 (effE d)) ∧ Below w.heap.size w w' := by
 simp only [REff] at hr
 obtain ⟨ya, yc, rfl⟩ := hr.shape
 obtain ⟨r, hrr⟩ : ∃ r, effE d = r := ⟨_, rfl⟩
 rw [hrr]
 have HR := hid hrr
 obtain ⟨x, hx⟩ : ∃ x, waveE d.wave = x := ⟨_, rfl⟩
 have C := fun (W : World) (hb : Below w.heap.size w W) => zpw _ d.wave W (hr.run hb)
 rw [hx] at C
 have HC := hid C
 have HX := hid hx
 have s0 := RowAt.new w 183 #[.int .i64 d.num, .int .i64 d.attr, .slice ya d.wave.length yc, .int .i64 d.per, .int .i64 d.spr, .int .i64 d.size]
 have b0 : Below w.heap.size w (w.alloc (.cells #[.int .i64 d.num, .int .i64 d.attr, .slice ya d.wave.length yc, .int .i64 d.per, .int .i64 d.spr, .int .i64 d.size] 183)) := bel
 have H0 := hid (And.intro s0 b0)
 clear hr hrr hx C s0 b0
 by_cases h1 : d.num < 1 ∨ 1048576 < d.num ∨ d.attr < 0 ∨ 15 ≤ d.attr
 · have hq : r = 2 := by rw [← HR.out, effE, if_pos h1]
   subst hq
   by_cases q1 : d.num < 1
   · go_enter Tryz.func274, Tryz.ntmps274
     go_wp2
     go_ret
     exact ⟨rfl, bel⟩
   by_cases q2 : 1048576 < d.num
   · go_enter Tryz.func274, Tryz.ntmps274
     go_wp2
     go_ret
     exact ⟨rfl, bel⟩
   by_cases q3 : d.attr < 0
   · go_enter Tryz.func274, Tryz.ntmps274
     go_wp2
     go_ret
     exact ⟨rfl, bel⟩
   have q4 : 15 ≤ d.attr := by omega
   clear h1
   go_enter Tryz.func274, Tryz.ntmps274
   go_wp2
   go_ret
   exact ⟨rfl, bel⟩
 have q1 : ¬ d.num < 1 := by omega
 have q2 : ¬ 1048576 < d.num := by omega
 have q3 : ¬ d.attr < 0 := by omega
 have q4 : ¬ 15 ≤ d.attr := by omega
 have HP := hid (show (if x ≠ 0 then x else if d.per < 1 ∨ 10000000 < d.per ∨ d.spr < 0 ∨ 1000 < d.spr ∨ d.size < 0 ∨ 65535 < d.size then 2 else 0) = r from by rw [← HR.out, effE, if_neg h1, HX.out])
 clear h1
 by_cases hx0 : x = 0
 · subst hx0
   have HP2 := hid (HP.out)
   go_enter Tryz.func274, Tryz.ntmps274
   go_wp2_with fail
   refine (HC.out _ H0.out.2).mono ?_
   rintro e w1 ⟨rfl, hb1⟩
   have hb9 : Below w.heap.size w w1 := H0.out.2.trans (hb1.mono H0.out.2.size)
   obtain ⟨x1, x2, x3, x4, x5, x6⟩ := zaa (H0.out.1.run hb1)
   have hbw := hid hb9
   clear hb1 hb9
   by_cases h6 : d.per < 1 ∨ 10000000 < d.per ∨ d.spr < 0 ∨ 1000 < d.spr ∨ d.size < 0 ∨ 65535 < d.size
   · have hq : r = 2 := by rw [← HP2.out, if_neg (by decide), if_pos h6]
     subst hq
     by_cases t1 : d.per < 1
     · clear h6
       go_wp2
       go_ret
       exact ⟨rfl, hbw.out⟩
     by_cases t2 : 10000000 < d.per
     · clear h6
       go_wp2
       go_ret
       exact ⟨rfl, hbw.out⟩
     by_cases t3 : d.spr < 0
     · clear h6
       go_wp2
       go_ret
       exact ⟨rfl, hbw.out⟩
     by_cases t4 : 1000 < d.spr
     · clear h6
       go_wp2
       go_ret
       exact ⟨rfl, hbw.out⟩
     by_cases t5 : d.size < 0
     · clear h6
       go_wp2
       go_ret
       exact ⟨rfl, hbw.out⟩
     have t6 : 65535 < d.size := by omega
     clear h6
     go_wp2
     go_ret
     exact ⟨rfl, hbw.out⟩
   have hq : r = 0 := by rw [← HP2.out, if_neg (by decide), if_neg h6]
   subst hq
   have t1 : ¬ d.per < 1 := by omega
   have t2 : ¬ 10000000 < d.per := by omega
   have t3 : ¬ d.spr < 0 := by omega
   have t4 : ¬ 1000 < d.spr := by omega
   have t5 : ¬ d.size < 0 := by omega
   have t6 : ¬ 65535 < d.size := by omega
   skip
   clear h6
   go_wp2
   go_ret
   exact ⟨rfl, hbw.out⟩
 have hx1 : (x == 0) = false := by simpa using hx0
 have hq : r = x := by rw [← HP.out, if_pos hx0]
 subst hq
 go_enter Tryz.func274, Tryz.ntmps274
 go_wp2_with fail
 refine (HC.out _ H0.out.2).mono ?_
 rintro e w1 ⟨rfl, hb1⟩
 go_wp2
 go_ret
 exact ⟨rfl, H0.out.2.trans (hb1.mono H0.out.2.size)⟩
theorem zqz (d : EffD) (v : Value) (w : World) (hr : REff w (d, v)) :
   Calls Tryz.prog 215 #[.agg #[.int .i64 d.num, .int .i64 d.attr, v, .int .i64 d.per, .int .i64 d.spr, .int .i64 d.size]] w fun e w' => e = .returned (.int .i64 (effE d)) ∧ Below w.heap.size w w' := by
 simp only [REff] at hr
 obtain ⟨ya, yc, rfl⟩ := hr.shape
 obtain ⟨r, hrr⟩ : ∃ r, effE d = r := ⟨_, rfl⟩
 rw [hrr]
 have HR := hid hrr
 obtain ⟨x, hx⟩ : ∃ x, waveE d.wave = x := ⟨_, rfl⟩
 have C := fun (W : World) (hb : Below w.heap.size w W) => zpt _ d.wave W (hr.run hb)
 rw [hx] at C
 have HC := hid C
 have HX := hid hx
 have s0 := RowAt.new w 183 #[.int .i64 d.num, .int .i64 d.attr, .slice ya d.wave.length yc, .int .i64 d.per, .int .i64 d.spr, .int .i64 d.size]
 have b0 : Below w.heap.size w (w.alloc (.cells #[.int .i64 d.num, .int .i64 d.attr, .slice ya d.wave.length yc, .int .i64 d.per, .int .i64 d.spr, .int .i64 d.size] 183)) := bel
 have H0 := hid (And.intro s0 b0)
 clear hr hrr hx C s0 b0
 by_cases h1 : d.num < 1 ∨ 1048576 < d.num ∨ d.attr < 0 ∨ 15 ≤ d.attr
 · have hq : r = 2 := by rw [← HR.out, effE, if_pos h1]
   subst hq
   by_cases q1 : d.num < 1
   · go_enter Tryz.func215, Tryz.ntmps215
     go_wp2
     go_ret
     exact ⟨rfl, bel⟩
   by_cases q2 : 1048576 < d.num
   · go_enter Tryz.func215, Tryz.ntmps215
     go_wp2
     go_ret
     exact ⟨rfl, bel⟩
   by_cases q3 : d.attr < 0
   · go_enter Tryz.func215, Tryz.ntmps215
     go_wp2
     go_ret
     exact ⟨rfl, bel⟩
   have q4 : 15 ≤ d.attr := by omega
   clear h1
   go_enter Tryz.func215, Tryz.ntmps215
   go_wp2
   go_ret
   exact ⟨rfl, bel⟩
 have q1 : ¬ d.num < 1 := by omega
 have q2 : ¬ 1048576 < d.num := by omega
 have q3 : ¬ d.attr < 0 := by omega
 have q4 : ¬ 15 ≤ d.attr := by omega
 have HP := hid (show (if x ≠ 0 then x else if d.per < 1 ∨ 10000000 < d.per ∨ d.spr < 0 ∨ 1000 < d.spr ∨ d.size < 0 ∨ 65535 < d.size then 2 else 0) = r from by rw [← HR.out, effE, if_neg h1, HX.out])
 clear h1
 by_cases hx0 : x = 0
 · subst hx0
   have HP2 := hid (HP.out)
   go_enter Tryz.func215, Tryz.ntmps215
   go_wp2_with fail
   refine (HC.out _ H0.out.2).mono ?_
   rintro e w1 ⟨rfl, hb1⟩
   have hb9 : Below w.heap.size w w1 := H0.out.2.trans (hb1.mono H0.out.2.size)
   obtain ⟨x1, x2, x3, x4, x5, x6⟩ := zaa (H0.out.1.run hb1)
   have hbw := hid hb9
   clear hb1 hb9
   by_cases h6 : d.per < 1 ∨ 10000000 < d.per ∨ d.spr < 0 ∨ 1000 < d.spr ∨ d.size < 0 ∨ 65535 < d.size
   · have hq : r = 2 := by rw [← HP2.out, if_neg (by decide), if_pos h6]
     subst hq
     by_cases t1 : d.per < 1
     · clear h6
       go_wp2
       go_ret
       exact ⟨rfl, hbw.out⟩
     by_cases t2 : 10000000 < d.per
     · clear h6
       go_wp2
       go_ret
       exact ⟨rfl, hbw.out⟩
     by_cases t3 : d.spr < 0
     · clear h6
       go_wp2
       go_ret
       exact ⟨rfl, hbw.out⟩
     by_cases t4 : 1000 < d.spr
     · clear h6
       go_wp2
       go_ret
       exact ⟨rfl, hbw.out⟩
     have C2 := fun W => zb7 d.size W
     rw [show lev16 d.size = false from by simp [lev16]; omega] at C2
     have H2 := hid C2
     clear C2 h6
     go_wp2_with fail
     refine (H2.out _).mono ?_
     rintro e w2 ⟨rfl, rfl⟩
     go_wp2
     go_ret
     exact ⟨rfl, hbw.out⟩
   have hq : r = 0 := by rw [← HP2.out, if_neg (by decide), if_neg h6]
   subst hq
   have t1 : ¬ d.per < 1 := by omega
   have t2 : ¬ 10000000 < d.per := by omega
   have t3 : ¬ d.spr < 0 := by omega
   have t4 : ¬ 1000 < d.spr := by omega
   have t5 : ¬ d.size < 0 := by omega
   have t6 : ¬ 65535 < d.size := by omega
   have C2 := fun W => zb7 d.size W
   rw [show lev16 d.size = true from by simp [lev16]; omega] at C2
   have H2 := hid C2
   clear C2
   clear h6
   go_wp2_with fail
   refine (H2.out _).mono ?_
   rintro e w2 ⟨rfl, rfl⟩
   go_wp2
   go_ret
   exact ⟨rfl, hbw.out⟩
 have hx1 : (x == 0) = false := by simpa using hx0
 have hq : r = x := by rw [← HP.out, if_pos hx0]
 subst hq
 go_enter Tryz.func215, Tryz.ntmps215
 go_wp2_with fail
 refine (HC.out _ H0.out.2).mono ?_
 rintro e w1 ⟨rfl, hb1⟩
 go_wp2
 go_ret
 exact ⟨rfl, H0.out.2.trans (hb1.mono H0.out.2.size)⟩
theorem ztm (v : Value) (l : List EffD) (w : World) (hv : RL 6 effA REff w v l) :
   Calls Tryz.prog 111 #[v] w fun e w' => e = .returned (.int .i64 (effsE l)) ∧ Below w.heap.size w w' := by
 obtain ⟨a, cap, rfl⟩ := hv.shape
 have hml := hv.few
 by_cases h4 : 16 < l.length
 · have h5 : (16 : Int) < (l.length : Int) := by omega
   rw [effsE, if_pos h4]
   clear hv
   go_enter Tryz.func111, Tryz.ntmps111
   go_wp2
   go_ret
   exact ⟨rfl, bel⟩
 have h5 : ¬ (16 : Int) < (l.length : Int) := by omega
 rw [effsE, if_neg h4]
 have HV := hid hv
 clear hv h4
 go_enter Tryz.func111, Tryz.ntmps111
 go_wp2
 go_loopw [3] (fun i wr => ∃ k : Nat, i = .int .i64 k ∧ Hid (LoopB (tabE effE EffD.num) l k ∧ Below w.heap.size w wr)) (fun i _ => l.length - (intOf i).toNat)
 case atStart => exact ⟨0, rfl, hid ⟨zam _ _, Below.refl _ _⟩⟩
 case round =>
   obtain ⟨k, rfl, hh⟩ := hrel
   have hk := hh.out.1.2.1
   have hbs := hh.out.2.size
   by_cases hlt : k < l.length
   · have hlt3 : (k : Int) < (l.length : Int) := by omega
     obtain ⟨d, hd⟩ : ∃ d, l[k]? = some d := ⟨_, List.getElem?_eq_getElem hlt⟩
     obtain ⟨y, g, off, cap', he, hg, hc⟩ := HV.out.at_ (by decide) zb0 hd
     cases he
     have HE := hid (fun (W : World) (hb : Below wr.heap.size wr W) => hc W (hh.out.2.trans (hb.mono hbs)))
     obtain ⟨ya, yn, yc, rfl⟩ := zfe (HE.out wr (Below.refl _ _)).2
     have e0 : wr.cell? ⟨g, off + k * 6, none⟩ = some (.int .i64 d.num) := (HE.out wr (Below.refl _ _)).1 0 (by decide)
     have e1 : wr.cell? ⟨g, off + k * 6 + 1, none⟩ = some (.int .i64 d.attr) := (HE.out wr (Below.refl _ _)).1 1 (by decide)
     have e2 : wr.cell? ⟨g, off + k * 6 + 2, none⟩ = some (.slice ya yn yc) := (HE.out wr (Below.refl _ _)).1 2 (by decide)
     have e3 : wr.cell? ⟨g, off + k * 6 + 3, none⟩ = some (.int .i64 d.per) := (HE.out wr (Below.refl _ _)).1 3 (by decide)
     have e4 : wr.cell? ⟨g, off + k * 6 + 4, none⟩ = some (.int .i64 d.spr) := (HE.out wr (Below.refl _ _)).1 4 (by decide)
     have e5 : wr.cell? ⟨g, off + k * 6 + 5, none⟩ = some (.int .i64 d.size) := (HE.out wr (Below.refl _ _)).1 5 (by decide)
     have hgr : g < wr.heap.size := by omega
     obtain ⟨x, hx⟩ : ∃ x, effE d = x := ⟨_, rfl⟩
     have C := zqz d _ wr (HE.out wr (Below.refl _ _)).2
     rw [hx] at C
     have HC := hid C
     have HX := hid hx
     have HD := hid hd
     clear hd hc hk hx C
     by_cases hx0 : x = 0
     · subst hx0
       by_cases hkz : k = 0
       · have hgo := hid (zah hh.out.1 HD.out (by subst hkz; exact zcj HX.out))
         have hkz2 : ¬ (0 : Int) < (k : Int) := by omega
         have hkz3 : decide (0 < k) = false := by simp; omega
         have hkz4 : decide ((0 : Int) < (k : Int)) = false := by simp; omega
         have hkz5 : ¬ 0 < k := by omega
         clear hkz
         go_wp2_with fail
         refine HC.out.mono ?_
         rintro e w1 ⟨rfl, hb1⟩
         have hbw := hid (hh.out.2.trans (hb1.mono hbs))
         go_wp2
         go_quiet (fail)
         go_wp2
         go_roundw
         case rel => exact ⟨k + 1, by go_num, hid ⟨hgo.out, by have := hbw.out; exact bel⟩⟩
         case measure => simp [intOf]; omega
       obtain ⟨j, hj⟩ : ∃ j, k = j + 1 := ⟨k - 1, by omega⟩
       obtain ⟨q, hq⟩ : ∃ q, l[j]? = some q := ⟨_, List.getElem?_eq_getElem (by omega)⟩
       obtain ⟨y2, g2, off2, cap2, he2, -, hc2⟩ := HV.out.at_ (by decide) zb0 hq
       cases he2
       have HP := hid (fun (W : World) (hb : Below wr.heap.size wr W) => (hc2 W (hh.out.2.trans (hb.mono hbs))).1 0 (by decide))
       have hkz2 : (0 : Int) < (k : Int) := by omega
       have hkz5 : 0 < k := by omega
       have hk1 : (k : Int) - 1 = (j : Int) := by omega
       have hk2 : IntKind.i64.wrap ((k : Int) - 1) = (j : Int) := by rw [hk1]; exact IntWalk.i64_in _ (by omega)
       have hk3 : IntKind.i64.wrap (j : Int) = (j : Int) := IntWalk.i64_in _ (by omega)
       have hk5 : (0 : Int) ≤ (j : Int) := by omega
       have hk6 : (j : Int) < (l.length : Int) := by omega
       have hst := hid (fun (h : d.num ≤ q.num) => zad hh.out.1 HD.out (by subst hj; rw [za8 hq HX.out, if_pos h]) (by decide : (9 : Int) ≠ 0))
       have hgo := hid (fun (h : ¬ d.num ≤ q.num) => zah hh.out.1 HD.out (by subst hj; rw [za8 hq HX.out, if_neg h]))
       clear hj hq hc2 hkz
       by_cases ho : d.num ≤ q.num
       · have hs2 := hid (hst.out ho)
         go_wp2_with fail
         refine HC.out.mono ?_
         rintro e w1 ⟨rfl, hb1⟩
         have f0 : w1.cell? ⟨g, off + k * 6, none⟩ = some (.int .i64 d.num) := (HE.out w1 hb1).1 0 (by decide)
         have p0 : w1.cell? ⟨g, off + j * 6, none⟩ = some (.int .i64 q.num) := HP.out w1 hb1
         have hbw := hid (hh.out.2.trans (hb1.mono hbs))
         clear e0 e1 e2 e3 e4 e5
         go_wp2
         go_quiet (fail)
         go_wp2
         go_ret
         exact ⟨zab hs2.out.symm, by have := hbw.out; exact bel⟩
       have hg2 := hid (hgo.out ho)
       go_wp2_with fail
       refine HC.out.mono ?_
       rintro e w1 ⟨rfl, hb1⟩
       have f0 : w1.cell? ⟨g, off + k * 6, none⟩ = some (.int .i64 d.num) := (HE.out w1 hb1).1 0 (by decide)
       have p0 : w1.cell? ⟨g, off + j * 6, none⟩ = some (.int .i64 q.num) := HP.out w1 hb1
       have hbw := hid (hh.out.2.trans (hb1.mono hbs))
       clear e0 e1 e2 e3 e4 e5
       go_wp2
       go_quiet (fail)
       go_wp2
       go_roundw
       case rel => exact ⟨k + 1, by go_num, hid ⟨hg2.out, by have := hbw.out; exact bel⟩⟩
       case measure => simp [intOf]; omega
     have hx1 : (x == 0) = false := by simpa using hx0
     have hst := hid (zad hh.out.1 HD.out (zcf HX.out hx0) hx0)
     go_wp2_with fail
     refine HC.out.mono ?_
     rintro e w1 ⟨rfl, hb1⟩
     go_wp2
     go_ret
     exact ⟨zab hst.out.symm, hh.out.2.trans (hb1.mono hbs)⟩
   obtain rfl : k = l.length := by omega
   have hen := hid (zan hh.out.1)
   go_wp2
   go_ret
   exact ⟨zab hen.out.symm, hh.out.2⟩
theorem zh4 (a b c d e : Int) (x : Option Addr) (n m : Nat) (w : World) :
  Calls Tryz.prog 275 #[.agg #[.int .i64 a, .int .i64 b, .slice x n m, .int .i64 c, .int .i64 d, .int .i64 e]] w fun r w' => r = .returned (.int .i64 a) ∧ Below w.heap.size w w' := by
 go_enter Tryz.func275, Tryz.ntmps275
 go_wp2
 go_ret
 exact ⟨rfl, bel⟩
theorem zqd (v : Value) (l : List EffD) (w : World) (hv : RL 6 effA REff w v l) :
   Calls Tryz.prog 273 #[v, .func (.func 274) #[] #[], .func (.func 275) #[] #[]] w fun e w' => e = .returned (.int .i64 (effsE l)) ∧ Below w.heap.size w w' := by
 obtain ⟨a, cap, rfl⟩ := hv.shape
 have hml := hv.few
 by_cases h4 : 16 < l.length
 · have h5 : (16 : Int) < (l.length : Int) := by omega
   rw [effsE, if_pos h4]
   clear hv
   go_enter Tryz.func273, Tryz.ntmps273
   go_wp2
   go_ret
   exact ⟨rfl, bel⟩
 have h5 : ¬ (16 : Int) < (l.length : Int) := by omega
 rw [effsE, if_neg h4]
 have HV := hid hv
 clear hv h4
 go_enter Tryz.func273, Tryz.ntmps273
 go_wp2
 go_loopw [7, 8, 15] (fun _ _ i wr => ∃ k : Nat, i = .int .i64 k ∧ Hid (LoopB (tabE effE EffD.num) l k ∧ Below w.heap.size w wr)) (fun _ _ i _ => l.length - (intOf i).toNat)
 case atStart => exact ⟨0, rfl, hid ⟨zam _ _, Below.refl _ _⟩⟩
 case round =>
   obtain ⟨k, rfl, hh⟩ := hrel
   have hk := hh.out.1.2.1
   have hbs := hh.out.2.size
   by_cases hlt : k < l.length
   · have hlt3 : (k : Int) < (l.length : Int) := by omega
     obtain ⟨d, hd⟩ : ∃ d, l[k]? = some d := ⟨_, List.getElem?_eq_getElem hlt⟩
     obtain ⟨y, g, off, cap', he, hg, hc⟩ := HV.out.at_ (by decide) zb0 hd
     cases he
     have HE := hid (fun (W : World) (hb : Below wr.heap.size wr W) => hc W (hh.out.2.trans (hb.mono hbs)))
     obtain ⟨ya, yn, yc, rfl⟩ := zfe (HE.out wr (Below.refl _ _)).2
     have e0 : wr.cell? ⟨g, off + k * 6, none⟩ = some (.int .i64 d.num) := (HE.out wr (Below.refl _ _)).1 0 (by decide)
     have e1 : wr.cell? ⟨g, off + k * 6 + 1, none⟩ = some (.int .i64 d.attr) := (HE.out wr (Below.refl _ _)).1 1 (by decide)
     have e2 : wr.cell? ⟨g, off + k * 6 + 2, none⟩ = some (.slice ya yn yc) := (HE.out wr (Below.refl _ _)).1 2 (by decide)
     have e3 : wr.cell? ⟨g, off + k * 6 + 3, none⟩ = some (.int .i64 d.per) := (HE.out wr (Below.refl _ _)).1 3 (by decide)
     have e4 : wr.cell? ⟨g, off + k * 6 + 4, none⟩ = some (.int .i64 d.spr) := (HE.out wr (Below.refl _ _)).1 4 (by decide)
     have e5 : wr.cell? ⟨g, off + k * 6 + 5, none⟩ = some (.int .i64 d.size) := (HE.out wr (Below.refl _ _)).1 5 (by decide)
     have hgr : g < wr.heap.size := by omega
     have hgn : ¬ g = wr.heap.size := by omega
     obtain ⟨x, hx⟩ : ∃ x, effE d = x := ⟨_, rfl⟩
     have hal : Below wr.heap.size wr (wr.alloc (.cells #[.int .i64 d.num, .int .i64 d.attr, .slice ya yn yc, .int .i64 d.per, .int .i64 d.spr, .int .i64 d.size] 183)) := bel
     have C := zq6 d _ (wr.alloc (.cells #[.int .i64 d.num, .int .i64 d.attr, .slice ya yn yc, .int .i64 d.per, .int .i64 d.spr, .int .i64 d.size] 183)) (HE.out _ hal).2
     rw [hx] at C
     have HC := hid C
     have HX := hid hx
     have HD := hid hd
     clear hd hc hk hx C hal
     by_cases hx0 : x = 0
     · subst hx0
       by_cases hkz : k = 0
       · have hgo := hid (zah hh.out.1 HD.out (by subst hkz; exact zcj HX.out))
         have hkz2 : ¬ (0 : Int) < (k : Int) := by omega
         have hkz3 : decide (0 < k) = false := by simp; omega
         have hkz4 : decide ((0 : Int) < (k : Int)) = false := by simp; omega
         have hkz5 : ¬ 0 < k := by omega
         clear hkz
         go_wp2_with fail
         refine HC.out.mono ?_
         rintro e w1 ⟨rfl, hb1⟩
         have hb9 : Below wr.heap.size wr w1 := bel
         have hbw := hid (hh.out.2.trans (hb9.mono hbs))
         clear e0 e1 e2 e3 e4 e5 hb1 hb9
         go_wp2
         go_quiet (fail)
         go_wp2
         go_roundw
         case rel => exact ⟨k + 1, by go_num, hid ⟨hgo.out, by have := hbw.out; exact bel⟩⟩
         case measure => simp [intOf]; omega
       obtain ⟨j, hj⟩ : ∃ j, k = j + 1 := ⟨k - 1, by omega⟩
       obtain ⟨q, hq⟩ : ∃ q, l[j]? = some q := ⟨_, List.getElem?_eq_getElem (by omega)⟩
       obtain ⟨y2, g2, off2, cap2, he2, -, hc2⟩ := HV.out.at_ (by decide) zb0 hq
       cases he2
       have HP := hid (fun (W : World) (hb : Below wr.heap.size wr W) => hc2 W (hh.out.2.trans (hb.mono hbs)))
       obtain ⟨za, zn, zc, rfl⟩ := zfe (HP.out wr (Below.refl _ _)).2
       have hkz2 : (0 : Int) < (k : Int) := by omega
       have hkz5 : 0 < k := by omega
       have hk1 : (k : Int) - 1 = (j : Int) := by omega
       have hk2 : IntKind.i64.wrap ((k : Int) - 1) = (j : Int) := by rw [hk1]; exact IntWalk.i64_in _ (by omega)
       have hk3 : IntKind.i64.wrap (j : Int) = (j : Int) := IntWalk.i64_in _ (by omega)
       have hk5 : (0 : Int) ≤ (j : Int) := by omega
       have hk6 : (j : Int) < (l.length : Int) := by omega
       have hst := hid (fun (h : d.num ≤ q.num) => zad hh.out.1 HD.out (by subst hj; rw [za8 hq HX.out, if_pos h]) (by decide : (9 : Int) ≠ 0))
       have hgo := hid (fun (h : ¬ d.num ≤ q.num) => zah hh.out.1 HD.out (by subst hj; rw [za8 hq HX.out, if_neg h]))
       have H1 := hid (fun W => zh4 d.num d.attr d.per d.spr d.size ya yn yc W)
       have H2 := hid (fun W => zh4 q.num q.attr q.per q.spr q.size za zn zc W)
       clear hj hq hc2 hkz
       go_wp2_with fail
       refine HC.out.mono ?_
       rintro e w1 ⟨rfl, hb1⟩
       have hb9 : Below wr.heap.size wr w1 := bel
       have r1 : RowAt w1 wr.heap.size 183 #[.int .i64 d.num, .int .i64 d.attr, .slice ya yn yc, .int .i64 d.per, .int .i64 d.spr, .int .i64 d.size] := (RowAt.new wr _ _).run hb1
       have z0 := (zaa r1).1 0
       have z1 := (zaa r1).1 1
       have z2 := (zaa r1).1 2
       have z3 := (zaa r1).1 3
       have z4 := (zaa r1).1 4
       have z5 := (zaa r1).1 5
       simp at z0 z1 z2 z3 z4 z5
       have f0 : w1.cell? ⟨g, off + j * 6, none⟩ = some (.int .i64 q.num) := (HP.out w1 hb9).1 0 (by decide)
       have f1 : w1.cell? ⟨g, off + j * 6 + 1, none⟩ = some (.int .i64 q.attr) := (HP.out w1 hb9).1 1 (by decide)
       have f2 : w1.cell? ⟨g, off + j * 6 + 2, none⟩ = some (.slice za zn zc) := (HP.out w1 hb9).1 2 (by decide)
       have f3 : w1.cell? ⟨g, off + j * 6 + 3, none⟩ = some (.int .i64 q.per) := (HP.out w1 hb9).1 3 (by decide)
       have f4 : w1.cell? ⟨g, off + j * 6 + 4, none⟩ = some (.int .i64 q.spr) := (HP.out w1 hb9).1 4 (by decide)
       have f5 : w1.cell? ⟨g, off + j * 6 + 5, none⟩ = some (.int .i64 q.size) := (HP.out w1 hb9).1 5 (by decide)
       have HW := hid hb9
       have hb99 := hb9
       have HK := hid (fun (W : World) (hb : Below w1.heap.size w1 W) => And.intro ((zaa (r1.run hb)).1 0) (And.intro ((zaa (r1.run hb)).1 1) (And.intro ((zaa (r1.run hb)).1 2) (And.intro ((zaa (r1.run hb)).1 3) (And.intro ((zaa (r1.run hb)).1 4) (And.intro ((zaa (r1.run hb)).1 5) (And.intro ((HP.out W (zag hb99 hb99.size hb)).1 0 (by decide)) (And.intro ((HP.out W (zag hb99 hb99.size hb)).1 1 (by decide)) (And.intro ((HP.out W (zag hb99 hb99.size hb)).1 2 (by decide)) (And.intro ((HP.out W (zag hb99 hb99.size hb)).1 3 (by decide)) (And.intro ((HP.out W (zag hb99 hb99.size hb)).1 4 (by decide)) ((HP.out W (zag hb99 hb99.size hb)).1 5 (by decide)))))))))))))
       clear e0 e1 e2 e3 e4 e5 hb1 hb9 r1
       go_wp2
       go_region_held3 (fun w' => w'.cell? ⟨wr.heap.size, 0, none⟩ = some (.int .i64 d.num) ∧ w'.cell? ⟨wr.heap.size, 1, none⟩ = some (.int .i64 d.attr) ∧ w'.cell? ⟨wr.heap.size, 2, none⟩ = some (.slice ya yn yc) ∧ w'.cell? ⟨wr.heap.size, 3, none⟩ = some (.int .i64 d.per) ∧ w'.cell? ⟨wr.heap.size, 4, none⟩ = some (.int .i64 d.spr) ∧ w'.cell? ⟨wr.heap.size, 5, none⟩ = some (.int .i64 d.size) ∧ w'.cell? ⟨g, off + j * 6, none⟩ = some (.int .i64 q.num) ∧ w'.cell? ⟨g, off + j * 6 + 1, none⟩ = some (.int .i64 q.attr) ∧ w'.cell? ⟨g, off + j * 6 + 2, none⟩ = some (.slice za zn zc) ∧ w'.cell? ⟨g, off + j * 6 + 3, none⟩ = some (.int .i64 q.per) ∧ w'.cell? ⟨g, off + j * 6 + 4, none⟩ = some (.int .i64 q.spr) ∧ w'.cell? ⟨g, off + j * 6 + 5, none⟩ = some (.int .i64 q.size)) (first | exact HK.out _ bel | go_keep) (first
         | (go_at_call 275; with_reducible refine (H1.out _).mono ?_; rintro e w3 ⟨rfl, hb3⟩)
         | (go_at_call 275; with_reducible refine (H2.out _).mono ?_; rintro e w4 ⟨rfl, hb4⟩))
       all_goals
         have hb6 : Below w1.heap.size w1 w4 := bel
         have hb7 : Below wr.heap.size wr w4 := zag HW.out HW.out.size hb6
         have hbw := hid (hh.out.2.trans (hb7.mono hbs))
         clear hb7 hb6 hb4 hb3
         by_cases ho : d.num ≤ q.num
         · have hs2 := hid (hst.out (by omega))
           go_wp2
           go_ret
           exact ⟨zab hs2.out.symm, hbw.out⟩
         have hg2 := hid (hgo.out (by omega))
         go_wp2
         go_roundw
         case rel => exact ⟨k + 1, by go_num, hid ⟨hg2.out, hbw.out⟩⟩
         case measure => simp [intOf]; omega
     have hx1 : (x == 0) = false := by simpa using hx0
     have hst := hid (zad hh.out.1 HD.out (zcf HX.out hx0) hx0)
     go_wp2_with fail
     refine HC.out.mono ?_
     rintro e w1 ⟨rfl, hb1⟩
     have hb9 : Below wr.heap.size wr w1 := bel
     go_wp2
     go_ret
     exact ⟨zab hst.out.symm, hh.out.2.trans (hb9.mono hbs)⟩
   obtain rfl : k = l.length := by omega
   have hen := hid (zan hh.out.1)
   go_wp2
   go_ret
   exact ⟨zab hen.out.symm, hh.out.2⟩
theorem zuo (v : Value) (l : List EffD) (w : World) (hv : RL 6 effA REff w v l) :
  Calls Tryz.prog 196 #[v] w fun e w' => e = .returned (.int .i64 (effsE l)) ∧ Below w.heap.size w w' := by
 obtain ⟨a, cap, rfl⟩ := hv.shape
 have C := hid (zqd _ l w hv)
 clear hv
 go_enter Tryz.func196, Tryz.ntmps196
 go_wp2_with fail
 refine C.out.mono ?_
 rintro e w1 ⟨rfl, hb1⟩
 go_wp2
 go_ret
 exact ⟨rfl, hb1⟩
structure Rule where
 K : Nat
 caps : Array Value
 err : Int
 bad : Bool
def ruleA (r : Rule) : Array Value := #[.func (.func r.K) #[] r.caps, .int .i64 r.err]
def ruleE (l : List Rule) : Int := match l.find? (·.bad) with | none => 0 | some r => r.err
def RulesOk (l : List Rule) (k : Nat) : Prop := ∀ r ∈ l.take k, r.bad = false
theorem zum (l : List Rule) : RulesOk l 0 := fun r hr => by simp at hr
theorem zpf {l : List Rule} {k : Nat} {r : Rule} (h : RulesOk l k) (hr : l[k]? = some r) (hb : r.bad = false) : RulesOk l (k + 1) := by
 intro s hs
 rw [zaf hr] at hs
 rcases List.mem_append.1 hs with h1 | h1
 · exact h s h1
 simp at h1; subst h1; exact hb
theorem zti {l : List Rule} {k : Nat} {r : Rule} (h : RulesOk l k) (hr : l[k]? = some r) (hb : r.bad = true) : ruleE l = r.err := by
 have e : l = l.take k ++ r :: l.drop (k + 1) := by
  have := List.take_append_drop k l
  rw [List.drop_eq_getElem?_toList_append, hr] at this
  simpa using this.symm
 unfold ruleE
 rw [e, List.find?_append, List.find?_eq_none.2 (fun s hs => by simp [h s hs])]
 simp [hb]
theorem zqm {l : List Rule} (h : RulesOk l l.length) : ruleE l = 0 := by
 unfold ruleE
 rw [List.find?_eq_none.2 (fun s hs => by simp [h s (by rwa [List.take_length])])]
theorem zd6 (v : Value) (l : List Rule) (w : World) (hv : ListAt 2 ruleA w v l) (he : ∀ r ∈ l, ∀ args W, (callFunc r.K args).run Tryz.prog W = .ok (.enter r.K args) W)
  (H : ∀ k r, l[k]? = some r → RulesOk l k → ∀ W, Below w.heap.size w W → Calls Tryz.prog r.K r.caps W fun e w' => e = .returned (.bool r.bad) ∧ Below W.heap.size W w') :
  Calls Tryz.prog 299 #[v] w fun e w' => e = .returned (.int .i64 (ruleE l)) ∧ Below w.heap.size w w' := by
 have hst : ∀ (W : World) (a : Addr) (fn : Fn) (x y : Array Value), (store a (.func fn x y)).run Tryz.prog W = stored Tryz.prog W a (.func fn x y) .plain := fun W a fn x y => run_store Tryz.prog W a _ .plain rfl
 obtain ⟨a, cap, rfl⟩ := hv.shape
 have hml := hv.few
 have HV := hid hv
 have HH := hid H
 have HE := hid he
 clear hv H he
 go_enter Tryz.func299, Tryz.ntmps299
 go_wp2
 go_loopw [4, 7] (fun _ i wr => ∃ k : Nat, k ≤ l.length ∧ i = .int .i64 k ∧ Hid (RulesOk l k ∧ Below w.heap.size w wr)) (fun _ i _ => l.length - (intOf i).toNat)
 case atStart => exact ⟨0, Nat.zero_le _, rfl, hid ⟨zum _, Below.refl _ _⟩⟩
 case round =>
  obtain ⟨k, hk, rfl, hh⟩ := hrel
  have hbs := hh.out.2.size
  by_cases hlt : k < l.length
  · have hlt3 : (k : Int) < (l.length : Int) := by omega
    obtain ⟨r, hr⟩ : ∃ r, l[k]? = some r := ⟨_, List.getElem?_eq_getElem hlt⟩
    obtain ⟨g, off, cap', he, hg, hc⟩ := HV.out.at_ (by decide) hr
    cases he
    have e0 : wr.cell? ⟨g, off + k * 2, none⟩ = some (.func (.func r.K) #[] r.caps) := hc wr hh.out.2 0 (by decide)
    have e1 : wr.cell? ⟨g, off + k * 2 + 1, none⟩ = some (.int .i64 r.err) := hc wr hh.out.2 1 (by decide)
    have hgr : g < wr.heap.size := by omega
    have hgn : ¬ g = wr.heap.size := by omega
    have hen := HE.out r (List.mem_of_getElem? hr)
    have C := hid (HH.out k r hr hh.out.1 (wr.alloc (.cells (ruleA r) 378)) (hh.out.2.alloc hbs _))
    have hgo := hid (fun h => zpf hh.out.1 hr h)
    have hit := hid (fun h => zti hh.out.1 hr h)
    obtain ⟨K, cs, er, b⟩ := r
    simp only [ruleA] at e0 e1 hen C hgo hit
    clear hr hc
    cases b with
    | true =>
      go_wp2_with fail
      refine C.out.mono ?_
      rintro e w1 ⟨rfl, hb1⟩
      have hb9 : Below wr.heap.size wr w1 := bel
      have r1 : RowAt w1 wr.heap.size 378 #[.func (.func K) #[] cs, .int .i64 er] := (RowAt.new wr _ _).run hb1
      obtain ⟨x1, x2, x3, x4, x5, x6⟩ := zaa r1
      have hbw := hid (hh.out.2.trans (hb9.mono hbs))
      have hit2 := hid (hit.out (by simp))
      clear e0 e1 hb1 hb9 r1
      go_wp2
      go_ret
      exact ⟨zab hit2.out.symm, hbw.out⟩
    | false =>
      go_wp2_with fail
      refine C.out.mono ?_
      rintro e w1 ⟨rfl, hb1⟩
      have hb9 : Below wr.heap.size wr w1 := bel
      have hbw := hid (hh.out.2.trans (hb9.mono hbs))
      have hgo2 := hid (hgo.out (by simp))
      clear e0 e1 hb1 hb9
      go_wp2
      go_roundw
      case rel => exact ⟨k + 1, by omega, by go_num, hid ⟨hgo2.out, hbw.out⟩⟩
      case measure => simp [intOf]; omega
  obtain rfl : k = l.length := by omega
  have hen := hid (zqm hh.out.1)
  go_wp2
  go_ret
  exact ⟨zab hen.out.symm, hh.out.2⟩
end Go.Proofs.YtjeigphhepngmaaGreatDoor
