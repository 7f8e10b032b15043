/- -/
import Derived.Test.YtjeigphhepngmaaGreatDoorJl
namespace Go.Proofs.YtjeigphhepngmaaGreatDoor
open Go.RowKit
open Go.Lib (hid)
set_option maxHeartbeats 8000000
set_option maxRecDepth 100000
theorem zgk {inh : Bool} {p : List GainD} {d : GainD} (h : ¬ parE d.ch d.at_ = 0) : gainE inh p d = 2 := by rw [gainE, if_pos h]
theorem zlm {inh : Bool} {p : List GainD} {d : GainD} (h : parE d.ch d.at_ = 0) (h2 : levB d.lev = false) : gainE inh p d = 2 := by rw [gainE, if_neg (by rw [h]; decide), if_pos h2]
theorem zhk {inh : Bool} {p : List GainD} {d : GainD} (h : parE d.ch d.at_ = 0) (h2 : levB d.lev = true) (h3 : inh = true ∧ d.at_ ≠ 0) : gainE inh p d = 11 := by rw [gainE, if_neg (by rw [h]; decide), if_neg (by rw [h2]; decide), if_pos h3]
theorem zhj {inh : Bool} {d : GainD} (h : parE d.ch d.at_ = 0) (h2 : levB d.lev = true) (h3 : ¬ (inh = true ∧ d.at_ ≠ 0)) : gainE inh [] d = 0 := by rw [gainE, if_neg (by rw [h]; decide), if_neg (by rw [h2]; decide), if_neg h3]; rfl
theorem zem {inh : Bool} {l : List GainD} {j : Nat} {q d : GainD} (hq : l[j]? = some q) (h : parE d.ch d.at_ = 0) (h2 : levB d.lev = true) (h3 : ¬ (inh = true ∧ d.at_ ≠ 0)) : gainE inh (l.take (j + 1)) d = if befP q.ch q.at_ d.ch d.at_ then 0 else 9 := by
 rw [gainE, if_neg (by rw [h]; decide), if_neg (by rw [h2]; decide), if_neg h3, zbs hq]
theorem zlq {inh : Bool} {p : List GainD} {d : GainD} (h : gainE inh p d = 0) : parE d.ch d.at_ = 0 := by
 by_cases h1 : parE d.ch d.at_ = 0
 · exact h1
 rw [zgk h1] at h; cases h
theorem zl5 (ch at_ : Int) (w : World) :
  Calls Tryz.prog 317 #[.agg #[.int .i64 ch, .int .i64 at_]] w fun e w' => e = .returned (.int .i64 (parE ch at_)) ∧ Below w.heap.size w w' := by
 go_enter Tryz.func317, Tryz.ntmps317
 go_wp2
 all_goals go_ret
 all_goals exact ⟨zab (by grind [parE]), bel⟩
theorem znl (c1 a1 c2 a2 : Int) (w : World) (h1 : parE c1 a1 = 0) (h2 : parE c2 a2 = 0) :
   Calls Tryz.prog 318 #[.agg #[.int .i64 c1, .int .i64 a1], .agg #[.int .i64 c2, .int .i64 a2]] w fun e w' => (∃ n, e = .returned (.int .i64 n) ∧ Hid (decide (0 ≤ n) = !befP c1 a1 c2 a2)) ∧ Below w.heap.size w w' := by
 obtain ⟨p1, p2, p3, p4⟩ := zeo h1
 obtain ⟨q1, q2, q3, q4⟩ := zeo h2
 clear h1 h2
 by_cases he : c1 = c2
 · subst he
   have e1 : (c1 != c1) = false := by simp
   go_enter Tryz.func318, Tryz.ntmps318
   go_wp2
   go_ret
   exact ⟨⟨_, rfl, hid (by rw [Bool.eq_iff_iff]; simp [befP] <;> omega)⟩, bel⟩
 have e1 : (c1 != c2) = true := by simpa using he
 go_enter Tryz.func318, Tryz.ntmps318
 go_wp2
 go_ret
 exact ⟨⟨_, rfl, hid (by rw [Bool.eq_iff_iff]; simp [befP] <;> omega)⟩, bel⟩
theorem zom (d : SubD) (v : Value) (w : World) (hr : RSub w (d, v)) :
   Calls Tryz.prog 272 #[.agg #[.int .i64 d.num, .int .i64 d.pri, .bool d.inh, v]] w fun e w' => e = .returned (.int .i64 (subE d)) ∧ Below w.heap.size w w' := by
 obtain ⟨num, pri, inh, l⟩ := d
 simp only [RSub] at hr ⊢
 obtain ⟨a, cap, rfl⟩ := hr.shape
 have hml := hr.few
 have b0 : Below w.heap.size w (w.alloc (.cells #[.int .i64 num, .int .i64 pri, .bool inh, .slice a l.length cap] 153)) := bel
 have s0 := RowAt.new w 153 #[.int .i64 num, .int .i64 pri, .bool inh, .slice a l.length cap]
 obtain ⟨r, hrr⟩ : ∃ r, subE ⟨num, pri, inh, l⟩ = r := ⟨_, rfl⟩
 rw [hrr]
 have HR := hid hrr
 have HV := hid hr
 have H0 := hid (And.intro s0 b0)
 clear hr hrr s0 b0
 by_cases h1 : num < 1 ∨ 1048576 < num ∨ pri < 0 ∨ 9 < pri
 · have hq : r = 2 := by rw [← HR.out, subE, if_pos h1]
   subst hq
   by_cases q1 : num < 1
   · go_enter Tryz.func272, Tryz.ntmps272
     go_wp2
     go_ret
     exact ⟨rfl, bel⟩
   by_cases q2 : 1048576 < num
   · go_enter Tryz.func272, Tryz.ntmps272
     go_wp2
     go_ret
     exact ⟨rfl, bel⟩
   by_cases q3 : pri < 0
   · go_enter Tryz.func272, Tryz.ntmps272
     go_wp2
     go_ret
     exact ⟨rfl, bel⟩
   have q4 : 9 < pri := by omega
   clear h1
   go_enter Tryz.func272, Tryz.ntmps272
   go_wp2
   go_ret
   exact ⟨rfl, bel⟩
 have q1 : ¬ num < 1 := by omega
 have q2 : ¬ 1048576 < num := by omega
 have q3 : ¬ pri < 0 := by omega
 have q4 : ¬ 9 < pri := by omega
 by_cases h4 : 128 < l.length
 · have h5 : (128 : Int) < (l.length : Int) := by omega
   have hq : r = 5 := by rw [← HR.out, subE, if_neg h1, if_pos h4]
   subst hq
   clear h1
   go_enter Tryz.func272, Tryz.ntmps272
   go_wp2
   go_ret
   exact ⟨rfl, bel⟩
 have h5 : ¬ (128 : Int) < (l.length : Int) := by omega
 have HP0 := hid (show allB (gainE inh) l = r from by rw [← HR.out, subE, if_neg h1, if_neg h4])
 clear h4 h1
 go_enter Tryz.func272, Tryz.ntmps272
 go_wp2
 go_loopw [3, 4, 31] (fun _ _ i wr => ∃ k : Nat, i = .int .i64 k ∧ Hid (LoopB (gainE inh) l k ∧ RowAt wr w.heap.size 153 #[.int .i64 num, .int .i64 pri, .bool inh, .slice a l.length cap] ∧ Below w.heap.size w wr)) (fun _ _ i _ => l.length - (intOf i).toNat)
 case atStart => exact ⟨0, rfl, hid ⟨zam _ _, H0.out⟩⟩
 case round =>
   obtain ⟨k, rfl, hh⟩ := hrel
   have hk := hh.out.1.2.1
   have hbs := hh.out.2.2.size
   obtain ⟨x1, x2, x3, x4, x5, x6⟩ := zaa hh.out.2.1
   have x7 := x1 3
   simp at x7
   by_cases hlt : k < l.length
   · have hlt3 : (k : Int) < (l.length : Int) := by omega
     obtain ⟨d, hd⟩ : ∃ d, l[k]? = some d := ⟨_, List.getElem?_eq_getElem hlt⟩
     obtain ⟨g, off, cap', he, hg, hc⟩ := HV.out.at_ (by decide) hd
     cases he
     obtain ⟨dc, da, dl⟩ := d
     have e0 : wr.cell? ⟨g, off + k * 3, none⟩ = some (.int .i64 dc) := hc wr hh.out.2.2 0 (by decide)
     have e1 : wr.cell? ⟨g, off + k * 3 + 1, none⟩ = some (.int .i64 da) := hc wr hh.out.2.2 1 (by decide)
     have e2 : wr.cell? ⟨g, off + k * 3 + 2, none⟩ = some (.int .i64 dl) := hc wr hh.out.2.2 2 (by decide)
     have hgr : g < wr.heap.size := by omega
     have hgn : ¬ g = wr.heap.size := by omega
     have hgw : ¬ g = w.heap.size := by omega
     have HA := hid (RowAt.new wr 278 #[.int .i64 dc, .int .i64 da, .int .i64 dl])
     have C1 := fun W => zl5 dc da W
     have HD := hid hd
     clear hd hc hk x1
     by_cases p1 : parE dc da = 0
     · rw [p1] at C1
       have H1 := hid C1
       clear C1
       by_cases p2 : levB dl = true
       · have l1 : ¬ dl < 0 := by have := p2; simp [levB] at this; omega
         have l2 : ¬ 65535 < dl := by have := p2; simp [levB] at this; omega
         by_cases p3 : inh = true ∧ da ≠ 0
         · have hst := hid (zad hh.out.1 HD.out (zhk p1 p2 p3) (by decide))
           obtain ⟨rfl, p4⟩ := p3
           have p5 : (da == 0) = false := by simpa using p4
           clear p1 p2
           go_wp2_with fail
           refine (H1.out _).mono ?_
           rintro e w1 ⟨rfl, hb1⟩
           have hb9 : Below wr.heap.size wr w1 := bel
           have r9 := hh.out.2.1.run hb9
           have r1 : RowAt w1 wr.heap.size 278 #[.int .i64 dc, .int .i64 da, .int .i64 dl] := HA.out.run hb1
           have x8 := (zaa r9).1 2
           have x9 := (zaa r9).1 3
           have z0 := (zaa r1).1 0
           have z1 := (zaa r1).1 1
           have z2 := (zaa r1).1 2
           simp at x8 x9 z0 z1 z2
           have hbw := hid (And.intro r9 (hh.out.2.2.trans (hb9.mono hbs)))
           clear e0 e1 e2
           go_wp2
           go_ret
           exact ⟨zab (by rw [← HP0.out, hst.out]), hbw.out.2⟩
         have p6 : inh = false ∨ (inh = true ∧ da = 0) := by
           cases hi : inh with
           | false => exact .inl rfl
           | true => exact .inr ⟨rfl, Decidable.not_not.1 fun h => p3 ⟨hi, h⟩⟩
         by_cases hkz : k = 0
         · have hgo := hid (zah hh.out.1 HD.out (by subst hkz; exact zhj p1 p2 p3))
           have hkz2 : ¬ (0 : Int) < (k : Int) := by omega
           have hkz3 : decide (0 < k) = false := by simp; omega
           have hkz4 : decide ((0 : Int) < (k : Int)) = false := by simp; omega
           have hkz5 : ¬ 0 < k := by omega
           clear hkz p1 p2 p3
           rcases p6 with rfl | ⟨rfl, rfl⟩
           · go_wp2_with fail
             refine (H1.out _).mono ?_
             rintro e w1 ⟨rfl, hb1⟩
             have hb9 : Below wr.heap.size wr w1 := bel
             have r9 := hh.out.2.1.run hb9
             have r1 : RowAt w1 wr.heap.size 278 #[.int .i64 dc, .int .i64 da, .int .i64 dl] := HA.out.run hb1
             have x8 := (zaa r9).1 2
             have x9 := (zaa r9).1 3
             have z0 := (zaa r1).1 0
             have z1 := (zaa r1).1 1
             have z2 := (zaa r1).1 2
             simp at x8 x9 z0 z1 z2
             have hbw := hid (And.intro r9 (hh.out.2.2.trans (hb9.mono hbs)))
             clear e0 e1 e2
             clear hb1 hb9 r9 r1
             go_wp2
             go_quiet (fail)
             go_wp2
             go_roundw
             case rel => exact ⟨k + 1, by go_num, hid ⟨hgo.out, by first | exact hbw.out.1 | exact hbw.out.1.drewN _, by have := hbw.out.2; exact bel⟩⟩
             case measure => simp [intOf]; omega
           go_wp2_with fail
           refine (H1.out _).mono ?_
           rintro e w1 ⟨rfl, hb1⟩
           have hb9 : Below wr.heap.size wr w1 := bel
           have r9 := hh.out.2.1.run hb9
           have r1 : RowAt w1 wr.heap.size 278 #[.int .i64 dc, .int .i64 0, .int .i64 dl] := HA.out.run hb1
           have x8 := (zaa r9).1 2
           have x9 := (zaa r9).1 3
           have z0 := (zaa r1).1 0
           have z1 := (zaa r1).1 1
           have z2 := (zaa r1).1 2
           simp at x8 x9 z0 z1 z2
           have hbw := hid (And.intro r9 (hh.out.2.2.trans (hb9.mono hbs)))
           clear e0 e1 e2
           clear hb1 hb9 r9 r1
           go_wp2
           go_quiet (fail)
           go_wp2
           go_roundw
           case rel => exact ⟨k + 1, by go_num, hid ⟨hgo.out, by first | exact hbw.out.1 | exact hbw.out.1.drewN _, by have := hbw.out.2; exact bel⟩⟩
           case measure => simp [intOf]; omega
         obtain ⟨j, hj⟩ : ∃ j, k = j + 1 := ⟨k - 1, by omega⟩
         obtain ⟨q, hq⟩ : ∃ q, l[j]? = some q := ⟨_, List.getElem?_eq_getElem (by omega)⟩
         obtain ⟨g2, off2, cap2, he2, -, hc2⟩ := HV.out.at_ (by decide) hq
         cases he2
         have hq1 : parE q.ch q.at_ = 0 := zlq ((zb2 hq).symm.trans (hh.out.1.2.2 j (by omega)))
         have HP := hid (fun (W : World) (hb : Below wr.heap.size wr W) => hc2 W (hh.out.2.2.trans (hb.mono hbs)))
         have hkz2 : (0 : Int) < (k : Int) := by omega
         have hkz5 : 0 < k := by omega
         have hk1 : (k : Int) - 1 = (j : Int) := by omega
         have hk2 : IntKind.i64.wrap ((k : Int) - 1) = (j : Int) := by rw [hk1]; exact IntWalk.i64_in _ (by omega)
         have hk3 : IntKind.i64.wrap (j : Int) = (j : Int) := IntWalk.i64_in _ (by omega)
         have hk5 : (0 : Int) ≤ (j : Int) := by omega
         have hk6 : (j : Int) < (l.length : Int) := by omega
         obtain ⟨t, ht⟩ : ∃ t, befP q.ch q.at_ dc da = t := ⟨_, rfl⟩
         have H3 := fun W => znl q.ch q.at_ dc da W hq1 p1
         rw [ht] at H3
         have H3 := hid H3
         have hst := hid (fun (h : t = false) => zad hh.out.1 HD.out (by subst hj; refine (zem hq p1 p2 p3).trans ?_; show (if befP q.ch q.at_ dc da = true then (0 : Int) else 9) = 9; rw [ht, h]; rfl) (by decide : (9 : Int) ≠ 0))
         have hgo := hid (fun (h : t = true) => zah hh.out.1 HD.out (by subst hj; refine (zem hq p1 p2 p3).trans ?_; show (if befP q.ch q.at_ dc da = true then (0 : Int) else 9) = 0; rw [ht, h]; rfl))
         clear hj hq hc2 hkz hq1 ht p1 p2 p3
         rcases p6 with rfl | ⟨rfl, rfl⟩
         · go_wp2_with fail
           refine (H1.out _).mono ?_
           rintro e w1 ⟨rfl, hb1⟩
           have hb9 : Below wr.heap.size wr w1 := bel
           have r9 := hh.out.2.1.run hb9
           have r1 : RowAt w1 wr.heap.size 278 #[.int .i64 dc, .int .i64 da, .int .i64 dl] := HA.out.run hb1
           have x8 := (zaa r9).1 2
           have x9 := (zaa r9).1 3
           have z0 := (zaa r1).1 0
           have z1 := (zaa r1).1 1
           have z2 := (zaa r1).1 2
           simp at x8 x9 z0 z1 z2
           have hbw := hid (And.intro r9 (hh.out.2.2.trans (hb9.mono hbs)))
           clear e0 e1 e2
           have f0 : w1.cell? ⟨g, off + j * 3, none⟩ = some (.int .i64 q.ch) := HP.out w1 hb9 0 (by decide)
           have f1 : w1.cell? ⟨g, off + j * 3 + 1, none⟩ = some (.int .i64 q.at_) := HP.out w1 hb9 1 (by decide)
           have HW := hid hb9
           have hb99 := hb9
           have HK := hid (fun (W : World) (hb : Below w1.heap.size w1 W) => And.intro ((zaa (r9.run hb)).1 3) (And.intro (HP.out W (zag hb99 hb99.size hb) 0 (by decide)) (And.intro (HP.out W (zag hb99 hb99.size hb) 1 (by decide)) (And.intro ((zaa (r1.run hb)).1 0) ((zaa (r1.run hb)).1 1)))))
           have HR9 := hid r9
           clear hb1 hb9 r9 r1 hbw
           go_wp2
           go_region_held3 (fun w' => w'.cell? ⟨w.heap.size, 3, none⟩ = some (.slice (some ⟨g, off, none⟩) l.length cap) ∧ w'.cell? ⟨g, off + j * 3, none⟩ = some (.int .i64 q.ch) ∧ w'.cell? ⟨g, off + j * 3 + 1, none⟩ = some (.int .i64 q.at_) ∧ w'.cell? ⟨wr.heap.size, 0, none⟩ = some (.int .i64 dc) ∧ w'.cell? ⟨wr.heap.size, 1, none⟩ = some (.int .i64 da)) (first | exact HK.out _ bel | go_keep) ((go_at_call 318; refine (H3.out _).mono ?_; rintro e w4 ⟨⟨n, rfl, hn⟩, hb4⟩))
           all_goals
             have hb6 : Below w1.heap.size w1 w4 := bel
             have hb7 : Below wr.heap.size wr w4 := zag HW.out HW.out.size hb6
             have hbw := hid (And.intro (HR9.out.run hb6) (hh.out.2.2.trans (hb7.mono hbs)))
             clear hb7 hb6 hb4
             cases t with
             | true =>
               have hg2 := hid (hgo.out rfl)
               have hn2 : ¬ 0 ≤ n := by have := hn.out; simpa using this
               clear hn
               go_wp2
               go_roundw
               case rel => exact ⟨k + 1, by go_num, hid ⟨hg2.out, hbw.out⟩⟩
               case measure => simp [intOf]; omega
             | false =>
               have hs2 := hid (hst.out rfl)
               have hn2 : 0 ≤ n := by have := hn.out; simpa using this
               clear hn
               go_wp2
               go_ret
               exact ⟨zab (by rw [← HP0.out, hs2.out]), hbw.out.2⟩
         go_wp2_with fail
         refine (H1.out _).mono ?_
         rintro e w1 ⟨rfl, hb1⟩
         have hb9 : Below wr.heap.size wr w1 := bel
         have r9 := hh.out.2.1.run hb9
         have r1 : RowAt w1 wr.heap.size 278 #[.int .i64 dc, .int .i64 0, .int .i64 dl] := HA.out.run hb1
         have x8 := (zaa r9).1 2
         have x9 := (zaa r9).1 3
         have z0 := (zaa r1).1 0
         have z1 := (zaa r1).1 1
         have z2 := (zaa r1).1 2
         simp at x8 x9 z0 z1 z2
         have hbw := hid (And.intro r9 (hh.out.2.2.trans (hb9.mono hbs)))
         clear e0 e1 e2
         have f0 : w1.cell? ⟨g, off + j * 3, none⟩ = some (.int .i64 q.ch) := HP.out w1 hb9 0 (by decide)
         have f1 : w1.cell? ⟨g, off + j * 3 + 1, none⟩ = some (.int .i64 q.at_) := HP.out w1 hb9 1 (by decide)
         have HW := hid hb9
         have hb99 := hb9
         have HK := hid (fun (W : World) (hb : Below w1.heap.size w1 W) => And.intro ((zaa (r9.run hb)).1 3) (And.intro (HP.out W (zag hb99 hb99.size hb) 0 (by decide)) (And.intro (HP.out W (zag hb99 hb99.size hb) 1 (by decide)) (And.intro ((zaa (r1.run hb)).1 0) ((zaa (r1.run hb)).1 1)))))
         have HR9 := hid r9
         clear hb1 hb9 r9 r1 hbw
         go_wp2
         go_region_held3 (fun w' => w'.cell? ⟨w.heap.size, 3, none⟩ = some (.slice (some ⟨g, off, none⟩) l.length cap) ∧ w'.cell? ⟨g, off + j * 3, none⟩ = some (.int .i64 q.ch) ∧ w'.cell? ⟨g, off + j * 3 + 1, none⟩ = some (.int .i64 q.at_) ∧ w'.cell? ⟨wr.heap.size, 0, none⟩ = some (.int .i64 dc) ∧ w'.cell? ⟨wr.heap.size, 1, none⟩ = some (.int .i64 0)) (first | exact HK.out _ bel | go_keep) ((go_at_call 318; refine (H3.out _).mono ?_; rintro e w4 ⟨⟨n, rfl, hn⟩, hb4⟩))
         all_goals
           have hb6 : Below w1.heap.size w1 w4 := bel
           have hb7 : Below wr.heap.size wr w4 := zag HW.out HW.out.size hb6
           have hbw := hid (And.intro (HR9.out.run hb6) (hh.out.2.2.trans (hb7.mono hbs)))
           clear hb7 hb6 hb4
           cases t with
           | true =>
             have hg2 := hid (hgo.out rfl)
             have hn2 : ¬ 0 ≤ n := by have := hn.out; simpa using this
             clear hn
             go_wp2
             go_roundw
             case rel => exact ⟨k + 1, by go_num, hid ⟨hg2.out, hbw.out⟩⟩
             case measure => simp [intOf]; omega
           | false =>
             have hs2 := hid (hst.out rfl)
             have hn2 : 0 ≤ n := by have := hn.out; simpa using this
             clear hn
             go_wp2
             go_ret
             exact ⟨zab (by rw [← HP0.out, hs2.out]), hbw.out.2⟩
       have p3 : levB dl = false := by simpa using p2
       have hst := hid (zad hh.out.1 HD.out (zlm p1 p3) (by decide))
       have l0 : dl < 0 ∨ 65535 < dl := by have := p3; simp [levB] at this; omega
       clear p1 p2 p3
       by_cases l1 : dl < 0
       · go_wp2_with fail
         refine (H1.out _).mono ?_
         rintro e w1 ⟨rfl, hb1⟩
         have hb9 : Below wr.heap.size wr w1 := bel
         have r9 := hh.out.2.1.run hb9
         have r1 : RowAt w1 wr.heap.size 278 #[.int .i64 dc, .int .i64 da, .int .i64 dl] := HA.out.run hb1
         have x8 := (zaa r9).1 2
         have x9 := (zaa r9).1 3
         have z0 := (zaa r1).1 0
         have z1 := (zaa r1).1 1
         have z2 := (zaa r1).1 2
         simp at x8 x9 z0 z1 z2
         have hbw := hid (And.intro r9 (hh.out.2.2.trans (hb9.mono hbs)))
         clear e0 e1 e2
         go_wp2
         go_ret
         exact ⟨zab (by rw [← HP0.out, hst.out]), hbw.out.2⟩
       have l2 : 65535 < dl := by omega
       go_wp2_with fail
       refine (H1.out _).mono ?_
       rintro e w1 ⟨rfl, hb1⟩
       have hb9 : Below wr.heap.size wr w1 := bel
       have r9 := hh.out.2.1.run hb9
       have r1 : RowAt w1 wr.heap.size 278 #[.int .i64 dc, .int .i64 da, .int .i64 dl] := HA.out.run hb1
       have x8 := (zaa r9).1 2
       have x9 := (zaa r9).1 3
       have z0 := (zaa r1).1 0
       have z1 := (zaa r1).1 1
       have z2 := (zaa r1).1 2
       simp at x8 x9 z0 z1 z2
       have hbw := hid (And.intro r9 (hh.out.2.2.trans (hb9.mono hbs)))
       clear e0 e1 e2
       go_wp2
       go_ret
       exact ⟨zab (by rw [← HP0.out, hst.out]), hbw.out.2⟩
     have pv : parE dc da = 2 := by grind [parE]
     rw [pv] at C1
     have H1 := hid C1
     have hst := hid (zad hh.out.1 HD.out (zgk p1) (by decide))
     clear C1 p1 pv
     go_wp2_with fail
     refine (H1.out _).mono ?_
     rintro e w1 ⟨rfl, hb1⟩
     have hb9 : Below wr.heap.size wr w1 := bel
     have r9 := hh.out.2.1.run hb9
     have r1 : RowAt w1 wr.heap.size 278 #[.int .i64 dc, .int .i64 da, .int .i64 dl] := HA.out.run hb1
     have x8 := (zaa r9).1 2
     have x9 := (zaa r9).1 3
     have z0 := (zaa r1).1 0
     have z1 := (zaa r1).1 1
     have z2 := (zaa r1).1 2
     simp at x8 x9 z0 z1 z2
     have hbw := hid (And.intro r9 (hh.out.2.2.trans (hb9.mono hbs)))
     clear e0 e1 e2
     go_wp2
     go_ret
     exact ⟨zab (by rw [← HP0.out, hst.out]), hbw.out.2⟩
   obtain rfl : k = l.length := by omega
   have hen := hid (zan hh.out.1)
   go_wp2
   go_ret
   exact ⟨zab (by rw [← HP0.out, hen.out]), hh.out.2.2⟩
theorem zl2 (d : SubD) (v : Value) (w : World) (hr : RSub w (d, v)) :
   Calls Tryz.prog 214 #[.agg #[.int .i64 d.num, .int .i64 d.pri, .bool d.inh, v]] w fun e w' => e = .returned (.int .i64 (subE d)) ∧ Below w.heap.size w w' := by
 obtain ⟨num, pri, inh, l⟩ := d
 simp only [RSub] at hr ⊢
 obtain ⟨a, cap, rfl⟩ := hr.shape
 have hml := hr.few
 have b0 : Below w.heap.size w (w.alloc (.cells #[.int .i64 num, .int .i64 pri, .bool inh, .slice a l.length cap] 153)) := bel
 have s0 := RowAt.new w 153 #[.int .i64 num, .int .i64 pri, .bool inh, .slice a l.length cap]
 obtain ⟨r, hrr⟩ : ∃ r, subE ⟨num, pri, inh, l⟩ = r := ⟨_, rfl⟩
 rw [hrr]
 have HR := hid hrr
 have HV := hid hr
 have H0 := hid (And.intro s0 b0)
 clear hr hrr s0 b0
 by_cases h1 : num < 1 ∨ 1048576 < num ∨ pri < 0 ∨ 9 < pri
 · have hq : r = 2 := by rw [← HR.out, subE, if_pos h1]
   subst hq
   by_cases q1 : num < 1
   · go_enter Tryz.func214, Tryz.ntmps214
     go_wp2
     go_ret
     exact ⟨rfl, bel⟩
   by_cases q2 : 1048576 < num
   · go_enter Tryz.func214, Tryz.ntmps214
     go_wp2
     go_ret
     exact ⟨rfl, bel⟩
   by_cases q3 : pri < 0
   · go_enter Tryz.func214, Tryz.ntmps214
     go_wp2
     go_ret
     exact ⟨rfl, bel⟩
   have q4 : 9 < pri := by omega
   clear h1
   go_enter Tryz.func214, Tryz.ntmps214
   go_wp2
   go_ret
   exact ⟨rfl, bel⟩
 have q1 : ¬ num < 1 := by omega
 have q2 : ¬ 1048576 < num := by omega
 have q3 : ¬ pri < 0 := by omega
 have q4 : ¬ 9 < pri := by omega
 by_cases h4 : 128 < l.length
 · have h5 : (128 : Int) < (l.length : Int) := by omega
   have hq : r = 5 := by rw [← HR.out, subE, if_neg h1, if_pos h4]
   subst hq
   clear h1
   go_enter Tryz.func214, Tryz.ntmps214
   go_wp2
   go_ret
   exact ⟨rfl, bel⟩
 have h5 : ¬ (128 : Int) < (l.length : Int) := by omega
 have HP0 := hid (show allB (gainE inh) l = r from by rw [← HR.out, subE, if_neg h1, if_neg h4])
 clear h4 h1
 go_enter Tryz.func214, Tryz.ntmps214
 go_wp2
 go_loopw [3, 4] (fun i _ wr => ∃ k : Nat, i = .int .i64 k ∧ Hid (LoopB (gainE inh) l k ∧ RowAt wr w.heap.size 153 #[.int .i64 num, .int .i64 pri, .bool inh, .slice a l.length cap] ∧ Below w.heap.size w wr)) (fun i _ _ => l.length - (intOf i).toNat)
 case atStart => exact ⟨0, rfl, hid ⟨zam _ _, H0.out⟩⟩
 case round =>
   obtain ⟨k, rfl, hh⟩ := hrel
   have hk := hh.out.1.2.1
   have hbs := hh.out.2.2.size
   obtain ⟨x1, x2, x3, x4, x5, x6⟩ := zaa hh.out.2.1
   have x7 := x1 3
   simp at x7
   by_cases hlt : k < l.length
   · have hlt3 : (k : Int) < (l.length : Int) := by omega
     obtain ⟨d, hd⟩ : ∃ d, l[k]? = some d := ⟨_, List.getElem?_eq_getElem hlt⟩
     obtain ⟨g, off, cap', he, hg, hc⟩ := HV.out.at_ (by decide) hd
     cases he
     obtain ⟨dc, da, dl⟩ := d
     have e0 : wr.cell? ⟨g, off + k * 3, none⟩ = some (.int .i64 dc) := hc wr hh.out.2.2 0 (by decide)
     have e1 : wr.cell? ⟨g, off + k * 3 + 1, none⟩ = some (.int .i64 da) := hc wr hh.out.2.2 1 (by decide)
     have e2 : wr.cell? ⟨g, off + k * 3 + 2, none⟩ = some (.int .i64 dl) := hc wr hh.out.2.2 2 (by decide)
     have hgr : g < wr.heap.size := by omega
     have hgn : ¬ g = wr.heap.size := by omega
     have hgw : ¬ g = w.heap.size := by omega
     have HA := hid (RowAt.new wr 278 #[.int .i64 dc, .int .i64 da, .int .i64 dl])
     have C1 := fun W => zjf dc da W
     have HD := hid hd
     clear hd hc hk x1
     by_cases p1 : parE dc da = 0
     · rw [p1] at C1
       have H1 := hid C1
       clear C1
       by_cases p2 : levB dl = true
       · have C2 := fun W => zb7 dl W
         rw [show lev16 dl = true from p2] at C2
         have H2 := hid C2
         clear C2
         by_cases p3 : inh = true ∧ da ≠ 0
         · have hst := hid (zad hh.out.1 HD.out (zhk p1 p2 p3) (by decide))
           obtain ⟨rfl, p4⟩ := p3
           have p5 : (da == 0) = false := by simpa using p4
           clear p1 p2
           go_wp2_with fail
           refine (H1.out _).mono ?_
           rintro e w1 ⟨rfl, hb1⟩
           have hb9 : Below wr.heap.size wr w1 := bel
           have r9 := hh.out.2.1.run hb9
           have r1 : RowAt w1 wr.heap.size 278 #[.int .i64 dc, .int .i64 da, .int .i64 dl] := HA.out.run hb1
           have x8 := (zaa r9).1 2
           have x9 := (zaa r9).1 3
           have z0 := (zaa r1).1 0
           have z1 := (zaa r1).1 1
           have z2 := (zaa r1).1 2
           simp at x8 x9 z0 z1 z2
           have hbw := hid (And.intro r9 (hh.out.2.2.trans (hb9.mono hbs)))
           clear e0 e1 e2
           go_wp2_with fail
           refine (H2.out _).mono ?_
           rintro e w2 ⟨rfl, rfl⟩
           go_wp2
           go_ret
           exact ⟨zab (by rw [← HP0.out, hst.out]), hbw.out.2⟩
         have p6 : inh = false ∨ (inh = true ∧ da = 0) := by
           cases hi : inh with
           | false => exact .inl rfl
           | true => exact .inr ⟨rfl, Decidable.not_not.1 fun h => p3 ⟨hi, h⟩⟩
         by_cases hkz : k = 0
         · have hgo := hid (zah hh.out.1 HD.out (by subst hkz; exact zhj p1 p2 p3))
           have hkz2 : ¬ (0 : Int) < (k : Int) := by omega
           have hkz3 : decide (0 < k) = false := by simp; omega
           have hkz4 : decide ((0 : Int) < (k : Int)) = false := by simp; omega
           have hkz5 : ¬ 0 < k := by omega
           clear hkz p1 p2 p3
           rcases p6 with rfl | ⟨rfl, rfl⟩
           · go_wp2_with fail
             refine (H1.out _).mono ?_
             rintro e w1 ⟨rfl, hb1⟩
             have hb9 : Below wr.heap.size wr w1 := bel
             have r9 := hh.out.2.1.run hb9
             have r1 : RowAt w1 wr.heap.size 278 #[.int .i64 dc, .int .i64 da, .int .i64 dl] := HA.out.run hb1
             have x8 := (zaa r9).1 2
             have x9 := (zaa r9).1 3
             have z0 := (zaa r1).1 0
             have z1 := (zaa r1).1 1
             have z2 := (zaa r1).1 2
             simp at x8 x9 z0 z1 z2
             have hbw := hid (And.intro r9 (hh.out.2.2.trans (hb9.mono hbs)))
             clear e0 e1 e2
             go_wp2_with fail
             refine (H2.out _).mono ?_
             rintro e w2 ⟨rfl, rfl⟩
             clear hb1 hb9 r9 r1
             go_wp2
             go_quiet (fail)
             go_wp2
             go_roundw
             case rel => exact ⟨k + 1, by go_num, hid ⟨hgo.out, by first | exact hbw.out.1 | exact hbw.out.1.drewN _, by have := hbw.out.2; exact bel⟩⟩
             case measure => simp [intOf]; omega
           go_wp2_with fail
           refine (H1.out _).mono ?_
           rintro e w1 ⟨rfl, hb1⟩
           have hb9 : Below wr.heap.size wr w1 := bel
           have r9 := hh.out.2.1.run hb9
           have r1 : RowAt w1 wr.heap.size 278 #[.int .i64 dc, .int .i64 0, .int .i64 dl] := HA.out.run hb1
           have x8 := (zaa r9).1 2
           have x9 := (zaa r9).1 3
           have z0 := (zaa r1).1 0
           have z1 := (zaa r1).1 1
           have z2 := (zaa r1).1 2
           simp at x8 x9 z0 z1 z2
           have hbw := hid (And.intro r9 (hh.out.2.2.trans (hb9.mono hbs)))
           clear e0 e1 e2
           go_wp2_with fail
           refine (H2.out _).mono ?_
           rintro e w2 ⟨rfl, rfl⟩
           clear hb1 hb9 r9 r1
           go_wp2
           go_quiet (fail)
           go_wp2
           go_roundw
           case rel => exact ⟨k + 1, by go_num, hid ⟨hgo.out, by first | exact hbw.out.1 | exact hbw.out.1.drewN _, by have := hbw.out.2; exact bel⟩⟩
           case measure => simp [intOf]; omega
         obtain ⟨j, hj⟩ : ∃ j, k = j + 1 := ⟨k - 1, by omega⟩
         obtain ⟨q, hq⟩ : ∃ q, l[j]? = some q := ⟨_, List.getElem?_eq_getElem (by omega)⟩
         obtain ⟨g2, off2, cap2, he2, -, hc2⟩ := HV.out.at_ (by decide) hq
         cases he2
         have hq1 : parE q.ch q.at_ = 0 := zlq ((zb2 hq).symm.trans (hh.out.1.2.2 j (by omega)))
         have HP := hid (fun (W : World) (hb : Below wr.heap.size wr W) => hc2 W (hh.out.2.2.trans (hb.mono hbs)))
         have hkz2 : (0 : Int) < (k : Int) := by omega
         have hkz5 : 0 < k := by omega
         have hk1 : (k : Int) - 1 = (j : Int) := by omega
         have hk2 : IntKind.i64.wrap ((k : Int) - 1) = (j : Int) := by rw [hk1]; exact IntWalk.i64_in _ (by omega)
         have hk3 : IntKind.i64.wrap (j : Int) = (j : Int) := IntWalk.i64_in _ (by omega)
         have hk5 : (0 : Int) ≤ (j : Int) := by omega
         have hk6 : (j : Int) < (l.length : Int) := by omega
         obtain ⟨t, ht⟩ : ∃ t, befP q.ch q.at_ dc da = t := ⟨_, rfl⟩
         have H3 := fun W => zfl q.ch q.at_ dc da W
         rw [ht] at H3
         have H3 := hid H3
         have hst := hid (fun (h : t = false) => zad hh.out.1 HD.out (by subst hj; refine (zem hq p1 p2 p3).trans ?_; show (if befP q.ch q.at_ dc da = true then (0 : Int) else 9) = 9; rw [ht, h]; rfl) (by decide : (9 : Int) ≠ 0))
         have hgo := hid (fun (h : t = true) => zah hh.out.1 HD.out (by subst hj; refine (zem hq p1 p2 p3).trans ?_; show (if befP q.ch q.at_ dc da = true then (0 : Int) else 9) = 0; rw [ht, h]; rfl))
         clear hj hq hc2 hkz hq1 ht p1 p2 p3
         rcases p6 with rfl | ⟨rfl, rfl⟩
         · go_wp2_with fail
           refine (H1.out _).mono ?_
           rintro e w1 ⟨rfl, hb1⟩
           have hb9 : Below wr.heap.size wr w1 := bel
           have r9 := hh.out.2.1.run hb9
           have r1 : RowAt w1 wr.heap.size 278 #[.int .i64 dc, .int .i64 da, .int .i64 dl] := HA.out.run hb1
           have x8 := (zaa r9).1 2
           have x9 := (zaa r9).1 3
           have z0 := (zaa r1).1 0
           have z1 := (zaa r1).1 1
           have z2 := (zaa r1).1 2
           simp at x8 x9 z0 z1 z2
           have hbw := hid (And.intro r9 (hh.out.2.2.trans (hb9.mono hbs)))
           clear e0 e1 e2
           go_wp2_with fail
           refine (H2.out _).mono ?_
           rintro e w2 ⟨rfl, rfl⟩
           have f0 : w1.cell? ⟨g, off + j * 3, none⟩ = some (.int .i64 q.ch) := HP.out w1 hb9 0 (by decide)
           have f1 : w1.cell? ⟨g, off + j * 3 + 1, none⟩ = some (.int .i64 q.at_) := HP.out w1 hb9 1 (by decide)
           have HW := hid hb9
           have hb99 := hb9
           have HK := hid (fun (W : World) (hb : Below w1.heap.size w1 W) => And.intro ((zaa (r9.run hb)).1 3) (And.intro (HP.out W (zag hb99 hb99.size hb) 0 (by decide)) (And.intro (HP.out W (zag hb99 hb99.size hb) 1 (by decide)) (And.intro ((zaa (r1.run hb)).1 0) ((zaa (r1.run hb)).1 1)))))
           have HR9 := hid r9
           clear hb1 hb9 r9 r1 hbw
           go_wp2
           go_region_held3 (fun w' => w'.cell? ⟨w.heap.size, 3, none⟩ = some (.slice (some ⟨g, off, none⟩) l.length cap) ∧ w'.cell? ⟨g, off + j * 3, none⟩ = some (.int .i64 q.ch) ∧ w'.cell? ⟨g, off + j * 3 + 1, none⟩ = some (.int .i64 q.at_) ∧ w'.cell? ⟨wr.heap.size, 0, none⟩ = some (.int .i64 dc) ∧ w'.cell? ⟨wr.heap.size, 1, none⟩ = some (.int .i64 da)) (first | exact HK.out _ bel | go_keep) ((go_at_call 259; refine (H3.out _).mono ?_; rintro e w4 ⟨rfl, hb4⟩))
           all_goals
             have hb6 : Below w1.heap.size w1 w4 := bel
             have hb7 : Below wr.heap.size wr w4 := zag HW.out HW.out.size hb6
             have hbw := hid (And.intro (HR9.out.run hb6) (hh.out.2.2.trans (hb7.mono hbs)))
             clear hb7 hb6 hb4
             cases t with
             | true =>
               have hg2 := hid (hgo.out rfl)
               skip
               skip
               go_wp2
               go_roundw
               case rel => exact ⟨k + 1, by go_num, hid ⟨hg2.out, hbw.out⟩⟩
               case measure => simp [intOf]; omega
             | false =>
               have hs2 := hid (hst.out rfl)
               skip
               skip
               go_wp2
               go_ret
               exact ⟨zab (by rw [← HP0.out, hs2.out]), hbw.out.2⟩
         go_wp2_with fail
         refine (H1.out _).mono ?_
         rintro e w1 ⟨rfl, hb1⟩
         have hb9 : Below wr.heap.size wr w1 := bel
         have r9 := hh.out.2.1.run hb9
         have r1 : RowAt w1 wr.heap.size 278 #[.int .i64 dc, .int .i64 0, .int .i64 dl] := HA.out.run hb1
         have x8 := (zaa r9).1 2
         have x9 := (zaa r9).1 3
         have z0 := (zaa r1).1 0
         have z1 := (zaa r1).1 1
         have z2 := (zaa r1).1 2
         simp at x8 x9 z0 z1 z2
         have hbw := hid (And.intro r9 (hh.out.2.2.trans (hb9.mono hbs)))
         clear e0 e1 e2
         go_wp2_with fail
         refine (H2.out _).mono ?_
         rintro e w2 ⟨rfl, rfl⟩
         have f0 : w1.cell? ⟨g, off + j * 3, none⟩ = some (.int .i64 q.ch) := HP.out w1 hb9 0 (by decide)
         have f1 : w1.cell? ⟨g, off + j * 3 + 1, none⟩ = some (.int .i64 q.at_) := HP.out w1 hb9 1 (by decide)
         have HW := hid hb9
         have hb99 := hb9
         have HK := hid (fun (W : World) (hb : Below w1.heap.size w1 W) => And.intro ((zaa (r9.run hb)).1 3) (And.intro (HP.out W (zag hb99 hb99.size hb) 0 (by decide)) (And.intro (HP.out W (zag hb99 hb99.size hb) 1 (by decide)) (And.intro ((zaa (r1.run hb)).1 0) ((zaa (r1.run hb)).1 1)))))
         have HR9 := hid r9
         clear hb1 hb9 r9 r1 hbw
         go_wp2
         go_region_held3 (fun w' => w'.cell? ⟨w.heap.size, 3, none⟩ = some (.slice (some ⟨g, off, none⟩) l.length cap) ∧ w'.cell? ⟨g, off + j * 3, none⟩ = some (.int .i64 q.ch) ∧ w'.cell? ⟨g, off + j * 3 + 1, none⟩ = some (.int .i64 q.at_) ∧ w'.cell? ⟨wr.heap.size, 0, none⟩ = some (.int .i64 dc) ∧ w'.cell? ⟨wr.heap.size, 1, none⟩ = some (.int .i64 0)) (first | exact HK.out _ bel | go_keep) ((go_at_call 259; refine (H3.out _).mono ?_; rintro e w4 ⟨rfl, hb4⟩))
         all_goals
           have hb6 : Below w1.heap.size w1 w4 := bel
           have hb7 : Below wr.heap.size wr w4 := zag HW.out HW.out.size hb6
           have hbw := hid (And.intro (HR9.out.run hb6) (hh.out.2.2.trans (hb7.mono hbs)))
           clear hb7 hb6 hb4
           cases t with
           | true =>
             have hg2 := hid (hgo.out rfl)
             skip
             skip
             go_wp2
             go_roundw
             case rel => exact ⟨k + 1, by go_num, hid ⟨hg2.out, hbw.out⟩⟩
             case measure => simp [intOf]; omega
           | false =>
             have hs2 := hid (hst.out rfl)
             skip
             skip
             go_wp2
             go_ret
             exact ⟨zab (by rw [← HP0.out, hs2.out]), hbw.out.2⟩
       have p3 : levB dl = false := by simpa using p2
       have hst := hid (zad hh.out.1 HD.out (zlm p1 p3) (by decide))
       have C2 := fun W => zb7 dl W
       rw [show lev16 dl = false from p3] at C2
       have H2 := hid C2
       clear C2 p1 p2 p3
       go_wp2_with fail
       refine (H1.out _).mono ?_
       rintro e w1 ⟨rfl, hb1⟩
       have hb9 : Below wr.heap.size wr w1 := bel
       have r9 := hh.out.2.1.run hb9
       have r1 : RowAt w1 wr.heap.size 278 #[.int .i64 dc, .int .i64 da, .int .i64 dl] := HA.out.run hb1
       have x8 := (zaa r9).1 2
       have x9 := (zaa r9).1 3
       have z0 := (zaa r1).1 0
       have z1 := (zaa r1).1 1
       have z2 := (zaa r1).1 2
       simp at x8 x9 z0 z1 z2
       have hbw := hid (And.intro r9 (hh.out.2.2.trans (hb9.mono hbs)))
       clear e0 e1 e2
       go_wp2_with fail
       refine (H2.out _).mono ?_
       rintro e w2 ⟨rfl, rfl⟩
       go_wp2
       go_ret
       exact ⟨zab (by rw [← HP0.out, hst.out]), hbw.out.2⟩
     have pv : parE dc da = 2 := by grind [parE]
     rw [pv] at C1
     have H1 := hid C1
     have hst := hid (zad hh.out.1 HD.out (zgk p1) (by decide))
     clear C1 p1 pv
     go_wp2_with fail
     refine (H1.out _).mono ?_
     rintro e w1 ⟨rfl, hb1⟩
     have hb9 : Below wr.heap.size wr w1 := bel
     have r9 := hh.out.2.1.run hb9
     have r1 : RowAt w1 wr.heap.size 278 #[.int .i64 dc, .int .i64 da, .int .i64 dl] := HA.out.run hb1
     have x8 := (zaa r9).1 2
     have x9 := (zaa r9).1 3
     have z0 := (zaa r1).1 0
     have z1 := (zaa r1).1 1
     have z2 := (zaa r1).1 2
     simp at x8 x9 z0 z1 z2
     have hbw := hid (And.intro r9 (hh.out.2.2.trans (hb9.mono hbs)))
     clear e0 e1 e2
     go_wp2
     go_ret
     exact ⟨zab (by rw [← HP0.out, hst.out]), hbw.out.2⟩
   obtain rfl : k = l.length := by omega
   have hen := hid (zan hh.out.1)
   go_wp2
   go_ret
   exact ⟨zab (by rw [← HP0.out, hen.out]), hh.out.2.2⟩
theorem zsj (v : Value) (l : List SubD) (w : World) (hv : RL 4 subA RSub w v l) :
   Calls Tryz.prog 110 #[v] w fun e w' => e = .returned (.int .i64 (subsE l)) ∧ Below w.heap.size w w' := by
 obtain ⟨a, cap, rfl⟩ := hv.shape
 have hml := hv.few
 by_cases h4 : 16 < l.length
 · have h5 : (16 : Int) < (l.length : Int) := by omega
   rw [subsE, if_pos h4]
   clear hv
   go_enter Tryz.func110, Tryz.ntmps110
   go_wp2
   go_ret
   exact ⟨rfl, bel⟩
 have h5 : ¬ (16 : Int) < (l.length : Int) := by omega
 rw [subsE, if_neg h4]
 have HV := hid hv
 clear hv h4
 go_enter Tryz.func110, Tryz.ntmps110
 go_wp2
 go_loopw [3] (fun i wr => ∃ k : Nat, i = .int .i64 k ∧ Hid (LoopB (tabE subE SubD.num) l k ∧ Below w.heap.size w wr)) (fun i _ => l.length - (intOf i).toNat)
 case atStart => exact ⟨0, rfl, hid ⟨zam _ _, Below.refl _ _⟩⟩
 case round =>
   obtain ⟨k, rfl, hh⟩ := hrel
   have hk := hh.out.1.2.1
   have hbs := hh.out.2.size
   by_cases hlt : k < l.length
   · have hlt3 : (k : Int) < (l.length : Int) := by omega
     obtain ⟨d, hd⟩ : ∃ d, l[k]? = some d := ⟨_, List.getElem?_eq_getElem hlt⟩
     obtain ⟨y, g, off, cap', he, hg, hc⟩ := HV.out.at_ (by decide) zbm hd
     cases he
     have HE := hid (fun (W : World) (hb : Below wr.heap.size wr W) => hc W (hh.out.2.trans (hb.mono hbs)))
     obtain ⟨ya, yn, yc, rfl⟩ := zjr (HE.out wr (Below.refl _ _)).2
     have e0 : wr.cell? ⟨g, off + k * 4, none⟩ = some (.int .i64 d.num) := (HE.out wr (Below.refl _ _)).1 0 (by decide)
     have e1 : wr.cell? ⟨g, off + k * 4 + 1, none⟩ = some (.int .i64 d.pri) := (HE.out wr (Below.refl _ _)).1 1 (by decide)
     have e2 : wr.cell? ⟨g, off + k * 4 + 2, none⟩ = some (.bool d.inh) := (HE.out wr (Below.refl _ _)).1 2 (by decide)
     have e3 : wr.cell? ⟨g, off + k * 4 + 3, none⟩ = some (.slice ya yn yc) := (HE.out wr (Below.refl _ _)).1 3 (by decide)
     have hgr : g < wr.heap.size := by omega
     obtain ⟨x, hx⟩ : ∃ x, subE d = x := ⟨_, rfl⟩
     have C := zl2 d _ wr (HE.out wr (Below.refl _ _)).2
     rw [hx] at C
     have HC := hid C
     have HX := hid hx
     have HD := hid hd
     clear hd hc hk hx C
     by_cases hx0 : x = 0
     · subst hx0
       by_cases hkz : k = 0
       · have hgo := hid (zah hh.out.1 HD.out (by subst hkz; exact zcj HX.out))
         have hkz2 : ¬ (0 : Int) < (k : Int) := by omega
         have hkz3 : decide (0 < k) = false := by simp; omega
         have hkz4 : decide ((0 : Int) < (k : Int)) = false := by simp; omega
         have hkz5 : ¬ 0 < k := by omega
         clear hkz
         go_wp2_with fail
         refine HC.out.mono ?_
         rintro e w1 ⟨rfl, hb1⟩
         have hbw := hid (hh.out.2.trans (hb1.mono hbs))
         go_wp2
         go_quiet (fail)
         go_wp2
         go_roundw
         case rel => exact ⟨k + 1, by go_num, hid ⟨hgo.out, by have := hbw.out; exact bel⟩⟩
         case measure => simp [intOf]; omega
       obtain ⟨j, hj⟩ : ∃ j, k = j + 1 := ⟨k - 1, by omega⟩
       obtain ⟨q, hq⟩ : ∃ q, l[j]? = some q := ⟨_, List.getElem?_eq_getElem (by omega)⟩
       obtain ⟨y2, g2, off2, cap2, he2, -, hc2⟩ := HV.out.at_ (by decide) zbm hq
       cases he2
       have HP := hid (fun (W : World) (hb : Below wr.heap.size wr W) => (hc2 W (hh.out.2.trans (hb.mono hbs))).1 0 (by decide))
       have hkz2 : (0 : Int) < (k : Int) := by omega
       have hkz5 : 0 < k := by omega
       have hk1 : (k : Int) - 1 = (j : Int) := by omega
       have hk2 : IntKind.i64.wrap ((k : Int) - 1) = (j : Int) := by rw [hk1]; exact IntWalk.i64_in _ (by omega)
       have hk3 : IntKind.i64.wrap (j : Int) = (j : Int) := IntWalk.i64_in _ (by omega)
       have hk5 : (0 : Int) ≤ (j : Int) := by omega
       have hk6 : (j : Int) < (l.length : Int) := by omega
       have hst := hid (fun (h : d.num ≤ q.num) => zad hh.out.1 HD.out (by subst hj; rw [za8 hq HX.out, if_pos h]) (by decide : (9 : Int) ≠ 0))
       have hgo := hid (fun (h : ¬ d.num ≤ q.num) => zah hh.out.1 HD.out (by subst hj; rw [za8 hq HX.out, if_neg h]))
       clear hj hq hc2 hkz
       by_cases ho : d.num ≤ q.num
       · have hs2 := hid (hst.out ho)
         go_wp2_with fail
         refine HC.out.mono ?_
         rintro e w1 ⟨rfl, hb1⟩
         have f0 : w1.cell? ⟨g, off + k * 4, none⟩ = some (.int .i64 d.num) := (HE.out w1 hb1).1 0 (by decide)
         have p0 : w1.cell? ⟨g, off + j * 4, none⟩ = some (.int .i64 q.num) := HP.out w1 hb1
         have hbw := hid (hh.out.2.trans (hb1.mono hbs))
         clear e0 e1 e2 e3
         go_wp2
         go_quiet (fail)
         go_wp2
         go_ret
         exact ⟨zab hs2.out.symm, by have := hbw.out; exact bel⟩
       have hg2 := hid (hgo.out ho)
       go_wp2_with fail
       refine HC.out.mono ?_
       rintro e w1 ⟨rfl, hb1⟩
       have f0 : w1.cell? ⟨g, off + k * 4, none⟩ = some (.int .i64 d.num) := (HE.out w1 hb1).1 0 (by decide)
       have p0 : w1.cell? ⟨g, off + j * 4, none⟩ = some (.int .i64 q.num) := HP.out w1 hb1
       have hbw := hid (hh.out.2.trans (hb1.mono hbs))
       clear e0 e1 e2 e3
       go_wp2
       go_quiet (fail)
       go_wp2
       go_roundw
       case rel => exact ⟨k + 1, by go_num, hid ⟨hg2.out, by have := hbw.out; exact bel⟩⟩
       case measure => simp [intOf]; omega
     have hx1 : (x == 0) = false := by simpa using hx0
     have hst := hid (zad hh.out.1 HD.out (zcf HX.out hx0) hx0)
     go_wp2_with fail
     refine HC.out.mono ?_
     rintro e w1 ⟨rfl, hb1⟩
     go_wp2
     go_ret
     exact ⟨zab hst.out.symm, hh.out.2.trans (hb1.mono hbs)⟩
   obtain rfl : k = l.length := by omega
   have hen := hid (zan hh.out.1)
   go_wp2
   go_ret
   exact ⟨zab hen.out.symm, hh.out.2⟩
end Go.Proofs.YtjeigphhepngmaaGreatDoor
