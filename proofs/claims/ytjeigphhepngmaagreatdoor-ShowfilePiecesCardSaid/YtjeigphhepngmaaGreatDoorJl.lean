/- -/
import Derived.Test.YtjeigphhepngmaaGreatDoorJc
import Derived.Test.YtjeigphhepngmaaGreatDoorJi
import Derived.Test.YtjeigphhepngmaaGreatDoorYv
namespace Go.Proofs.YtjeigphhepngmaaGreatDoor
open Go.RowKit
open Go.Lib (hid)
set_option maxHeartbeats 8000000
set_option maxRecDepth 100000
theorem zkw {p : List CueD} {d : CueD} {x : Int} (h : cueE d = x) (h0 : x ≠ 0) : cueAtE p d = x := by rw [cueAtE, if_pos (by rw [h]; exact h0), h]
theorem zkb {d : CueD} (h : cueE d = 0) : cueAtE [] d = 0 := by rw [cueAtE, if_neg (by rw [h]; decide)]; rfl
theorem zdy {l : List CueD} {j : Nat} {q d : CueD} (hq : l[j]? = some q) (h : cueE d = 0) : cueAtE (l.take (j + 1)) d = if val5 d.num.data.toList ≤ val5 q.num.data.toList then 9 else 0 := by rw [cueAtE, if_neg (by rw [h]; decide), zbs hq]
theorem zk2 {p : List CueD} {d : CueD} (h : cueAtE p d = 0) : cueE d = 0 := by
 unfold cueAtE at h
 split at h
 · exact h
 rename_i h1; exact Decidable.not_not.1 h1
theorem zd2 {d : CueD} (h : cueE d = 0) : chk5 d.num.data.toList = 0 := by
 unfold cueE at h
 split at h
 · exact h
 rename_i h1; exact Decidable.not_not.1 h1
theorem zs9 (d : LstD) (v : Value) (w : World) (hr : RLst w (d, v)) :
   Calls Tryz.prog 271 #[.agg #[.int .i64 d.num, .int .i64 d.pri, v]] w fun e w' => e = .returned (.int .i64 (lstE d)) ∧ Below w.heap.size w w' := by
 obtain ⟨num, pri, l⟩ := d
 simp only [RLst] at hr ⊢
 obtain ⟨a, cap, rfl⟩ := hr.shape
 have hml := hr.few
 have b0 : Below w.heap.size w (w.alloc (.cells #[.int .i64 num, .int .i64 pri, .slice a l.length cap] 93)) := bel
 have s0 := RowAt.new w 93 #[.int .i64 num, .int .i64 pri, .slice a l.length cap]
 obtain ⟨r, hrr⟩ : ∃ r, lstE ⟨num, pri, l⟩ = r := ⟨_, rfl⟩
 rw [hrr]
 have HR := hid hrr
 have HV := hid hr
 have H0 := hid (And.intro s0 b0)
 clear hr hrr s0 b0
 by_cases h1 : num < 1 ∨ 1048576 < num ∨ pri < 0 ∨ 9 < pri
 · have hq : r = 2 := by rw [← HR.out, lstE, if_pos h1]
   subst hq
   by_cases q1 : num < 1
   · go_enter Tryz.func271, Tryz.ntmps271
     go_wp2
     go_ret
     exact ⟨rfl, bel⟩
   by_cases q2 : 1048576 < num
   · go_enter Tryz.func271, Tryz.ntmps271
     go_wp2
     go_ret
     exact ⟨rfl, bel⟩
   by_cases q3 : pri < 0
   · go_enter Tryz.func271, Tryz.ntmps271
     go_wp2
     go_ret
     exact ⟨rfl, bel⟩
   have q4 : 9 < pri := by omega
   clear h1
   go_enter Tryz.func271, Tryz.ntmps271
   go_wp2
   go_ret
   exact ⟨rfl, bel⟩
 have q1 : ¬ num < 1 := by omega
 have q2 : ¬ 1048576 < num := by omega
 have q3 : ¬ pri < 0 := by omega
 have q4 : ¬ 9 < pri := by omega
 by_cases h4 : 64 < l.length
 · have h5 : (64 : Int) < (l.length : Int) := by omega
   have hq : r = 5 := by rw [← HR.out, lstE, if_neg h1, if_pos h4]
   subst hq
   clear h1
   go_enter Tryz.func271, Tryz.ntmps271
   go_wp2
   go_ret
   exact ⟨rfl, bel⟩
 have h5 : ¬ (64 : Int) < (l.length : Int) := by omega
 have HP0 := hid (show allB cueAtE l = r from by rw [← HR.out, lstE, if_neg h1, if_neg h4])
 clear h4 h1
 go_enter Tryz.func271, Tryz.ntmps271
 go_wp2
 go_loopw [3, 4, 33] (fun _ _ i wr => ∃ k : Nat, i = .int .i64 k ∧ Hid (LoopB cueAtE l k ∧ RowAt wr w.heap.size 93 #[.int .i64 num, .int .i64 pri, .slice a l.length cap] ∧ Below w.heap.size w wr)) (fun _ _ i _ => l.length - (intOf i).toNat)
 case atStart => exact ⟨0, rfl, hid ⟨zam _ _, H0.out⟩⟩
 case round =>
   obtain ⟨k, rfl, hh⟩ := hrel
   have hk := hh.out.1.2.1
   have hbs := hh.out.2.2.size
   obtain ⟨x1, x2, x3, x4, x5, x6⟩ := zaa hh.out.2.1
   have x7 := x1 2
   simp at x7
   by_cases hlt : k < l.length
   · have hlt3 : (k : Int) < (l.length : Int) := by omega
     obtain ⟨d, hd⟩ : ∃ d, l[k]? = some d := ⟨_, List.getElem?_eq_getElem hlt⟩
     obtain ⟨⟨y1, y2⟩, g, off, cap', he, hg, hc⟩ := HV.out.at_ (by decide) zbr hd
     cases he
     have HE := hid (fun (W : World) (hb : Below wr.heap.size wr W) => hc W (hh.out.2.2.trans (hb.mono hbs)))
     have hrd := (HE.out wr (Below.refl _ _)).2
     have hm1 := hrd.at_.moves.shape
     have hm2 := hrd.at_.parts.shape
     simp only at hm1 hm2
     obtain ⟨ya, yc, rfl⟩ := hm1
     obtain ⟨za, zc, rfl⟩ := hm2
     obtain ⟨yn, hyn⟩ : ∃ n, d.moves.length = n := ⟨_, rfl⟩
     obtain ⟨zn, hzn⟩ : ∃ n, d.parts.length = n := ⟨_, rfl⟩
     rw [hyn, hzn] at HE hrd
     have e0 : wr.cell? ⟨g, off + k * 9, none⟩ = some (.string d.num) := (HE.out wr (Below.refl _ _)).1 0 (by decide)
     have e1 : wr.cell? ⟨g, off + k * 9 + 1, none⟩ = some (.string d.lab) := (HE.out wr (Below.refl _ _)).1 1 (by decide)
     have e2 : wr.cell? ⟨g, off + k * 9 + 2, none⟩ = some (.slice ya yn yc) := (HE.out wr (Below.refl _ _)).1 2 (by decide)
     have e3 : wr.cell? ⟨g, off + k * 9 + 3, none⟩ = some (.slice za zn zc) := (HE.out wr (Below.refl _ _)).1 3 (by decide)
     have e4 : wr.cell? ⟨g, off + k * 9 + 4, none⟩ = some (.bool d.block) := (HE.out wr (Below.refl _ _)).1 4 (by decide)
     have e5 : wr.cell? ⟨g, off + k * 9 + 5, none⟩ = some (.bool d.mark) := (HE.out wr (Below.refl _ _)).1 5 (by decide)
     have e6 : wr.cell? ⟨g, off + k * 9 + 6, none⟩ = some (.int .i64 d.follow) := (HE.out wr (Below.refl _ _)).1 6 (by decide)
     have e7 : wr.cell? ⟨g, off + k * 9 + 7, none⟩ = some (.string d.link) := (HE.out wr (Below.refl _ _)).1 7 (by decide)
     have e8 : wr.cell? ⟨g, off + k * 9 + 8, none⟩ = some (.int .i64 d.loops) := (HE.out wr (Below.refl _ _)).1 8 (by decide)
     have hgr : g < wr.heap.size := by omega
     have hgn : ¬ g = wr.heap.size := by omega
     have hgw : ¬ g = w.heap.size := by omega
     obtain ⟨x, hx⟩ : ∃ x, cueE d = x := ⟨_, rfl⟩
     have hal : Below wr.heap.size wr (wr.alloc (.cells #[.string d.num, .string d.lab, .slice ya yn yc, .slice za zn zc, .bool d.block, .bool d.mark, .int .i64 d.follow, .string d.link, .int .i64 d.loops] 64)) := bel
     have C := zjm d (.slice ya yn yc) (.slice za zn zc) (wr.alloc (.cells #[.string d.num, .string d.lab, .slice ya yn yc, .slice za zn zc, .bool d.block, .bool d.mark, .int .i64 d.follow, .string d.link, .int .i64 d.loops] 64)) (HE.out _ hal).2.at_ (HE.out _ hal).2.cap1 hrd.num (by have := hrd.lab; simp only at this; omega) hrd.link
     rw [hx] at C
     have HC := hid C
     have HX := hid hx
     have HD := hid hd
     clear hd hc hk hx C hal hyn hzn x1
     by_cases hx0 : x = 0
     · subst hx0
       by_cases hkz : k = 0
       · have hgo := hid (zah hh.out.1 HD.out (by subst hkz; exact zkb HX.out))
         have hkz2 : ¬ (0 : Int) < (k : Int) := by omega
         have hkz3 : decide (0 < k) = false := by simp; omega
         have hkz4 : decide ((0 : Int) < (k : Int)) = false := by simp; omega
         have hkz5 : ¬ 0 < k := by omega
         clear hkz hrd
         go_wp2_with fail
         refine HC.out.mono ?_
         rintro e w1 ⟨rfl, hb1⟩
         have hb9 : Below wr.heap.size wr w1 := bel
         have r9 := hh.out.2.1.run hb9
         have x9 := (zaa r9).1 2
         simp at x9
         have r1 : RowAt w1 wr.heap.size 64 #[.string d.num, .string d.lab, .slice ya yn yc, .slice za zn zc, .bool d.block, .bool d.mark, .int .i64 d.follow, .string d.link, .int .i64 d.loops] := (RowAt.new wr _ _).run hb1
         have z0 := (zaa r1).1 0
         simp at z0
         have hbw := hid (And.intro r9 (hh.out.2.2.trans (hb9.mono hbs)))
         clear e0 e1 e2 e3 e4 e5 e6 e7 e8 hb1 hb9 r1 r9
         go_wp2
         go_quiet (fail)
         go_wp2
         go_roundw
         case rel => exact ⟨k + 1, by go_num, hid ⟨hgo.out, by first | exact hbw.out.1 | exact hbw.out.1.drewN _, by have := hbw.out.2; exact bel⟩⟩
         case measure => simp [intOf]; omega
       obtain ⟨j, hj⟩ : ∃ j, k = j + 1 := ⟨k - 1, by omega⟩
       obtain ⟨q, hq⟩ : ∃ q, l[j]? = some q := ⟨_, List.getElem?_eq_getElem (by omega)⟩
       obtain ⟨⟨u1, u2⟩, g2, off2, cap2, he2, -, hc2⟩ := HV.out.at_ (by decide) zbr hq
       cases he2
       have HP := hid (fun (W : World) (hb : Below wr.heap.size wr W) => hc2 W (hh.out.2.2.trans (hb.mono hbs)))
       have hrq := (HP.out wr (Below.refl _ _)).2
       have hq5 : chk5 q.num.data.toList = 0 := zd2 (zk2 ((zb2 hq).symm.trans (hh.out.1.2.2 j (by omega))))
       have hd5 : chk5 d.num.data.toList = 0 := zd2 HX.out
       have hkz2 : (0 : Int) < (k : Int) := by omega
       have hkz5 : 0 < k := by omega
       have hk1 : (k : Int) - 1 = (j : Int) := by omega
       have hk2 : IntKind.i64.wrap ((k : Int) - 1) = (j : Int) := by rw [hk1]; exact IntWalk.i64_in _ (by omega)
       have hk3 : IntKind.i64.wrap (j : Int) = (j : Int) := IntWalk.i64_in _ (by omega)
       have hk5 : (0 : Int) ≤ (j : Int) := by omega
       have hk6 : (j : Int) < (l.length : Int) := by omega
       have hkj : j < k := by omega
       obtain ⟨t, ht⟩ : ∃ t, ord5 (val5 q.num.data.toList) (val5 d.num.data.toList) = t := ⟨_, rfl⟩
       have htt := zi7 (val5 q.num.data.toList) (val5 d.num.data.toList)
       rw [ht] at htt
       have H3 := fun W => zrk q.num d.num W hrq.num hrd.num hq5 hd5
       rw [ht] at H3
       have H3 := hid H3
       have hst := hid (fun (h : 0 ≤ t) => zad hh.out.1 HD.out (by subst hj; rw [zdy hq HX.out, if_pos (by simpa [h] using htt.symm)]) (by decide : (9 : Int) ≠ 0))
       have hgo := hid (fun (h : ¬ 0 ≤ t) => zah hh.out.1 HD.out (by subst hj; rw [zdy hq HX.out, if_neg (by simpa [h] using htt.symm)]))
       clear hj hq hc2 hkz hq5 hd5 hrq hrd htt ht
       go_wp2_with fail
       refine HC.out.mono ?_
       rintro e w1 ⟨rfl, hb1⟩
       have hb9 : Below wr.heap.size wr w1 := bel
       have r9 := hh.out.2.1.run hb9
       have x9 := (zaa r9).1 2
       simp at x9
       have r1 : RowAt w1 wr.heap.size 64 #[.string d.num, .string d.lab, .slice ya yn yc, .slice za zn zc, .bool d.block, .bool d.mark, .int .i64 d.follow, .string d.link, .int .i64 d.loops] := (RowAt.new wr _ _).run hb1
       have z0 := (zaa r1).1 0
       simp at z0
       have hbw := hid (And.intro r9 (hh.out.2.2.trans (hb9.mono hbs)))
       have p0 : w1.cell? ⟨g, off + j * 9, none⟩ = some (.string q.num) := (HP.out w1 hb9).1 0 (by decide)
       have HW := hid hb9
       have hb99 := hb9
       have HK := hid (fun (W : World) (hb : Below w1.heap.size w1 W) => And.intro ((zaa (r9.run hb)).1 2) (And.intro ((HP.out W (zag hb99 hb99.size hb)).1 0 (by decide)) ((zaa (r1.run hb)).1 0)))
       have HR9 := hid r9
       clear e0 e1 e2 e3 e4 e5 e6 e7 e8 hb1 hb9 r1 r9 hbw
       go_wp2
       go_region_held3 (fun w' => w'.cell? ⟨w.heap.size, 2, none⟩ = some (.slice (some ⟨g, off, none⟩) l.length cap) ∧ w'.cell? ⟨g, off + j * 9, none⟩ = some (.string q.num) ∧ w'.cell? ⟨wr.heap.size, 0, none⟩ = some (.string d.num)) (first | exact HK.out _ bel | go_keep) ((go_at_call 316; refine (H3.out _).mono ?_; rintro e w4 ⟨rfl, hb4⟩))
       all_goals
         have hb6 : Below w1.heap.size w1 w4 := bel
         have hb7 : Below wr.heap.size wr w4 := zag HW.out HW.out.size hb6
         have hbw := hid (And.intro (HR9.out.run hb6) (hh.out.2.2.trans (hb7.mono hbs)))
         clear hb7 hb6 hb4
         by_cases ht0 : 0 ≤ t
         · have hs2 := hid (hst.out (by omega))
           go_wp2
           go_ret
           exact ⟨zab (by rw [← HP0.out, hs2.out]), by have := hbw.out.2; exact bel⟩
         have hg2 := hid (hgo.out (by omega))
         go_wp2
         go_roundw
         case rel => exact ⟨k + 1, by go_num, hid ⟨hg2.out, hbw.out⟩⟩
         case measure => simp [intOf]; omega
     have hx1 : (x == 0) = false := by simpa using hx0
     have hst := hid (zad hh.out.1 HD.out (zkw HX.out hx0) hx0)
     clear hrd
     go_wp2_with fail
     refine HC.out.mono ?_
     rintro e w1 ⟨rfl, hb1⟩
     have hb9 : Below wr.heap.size wr w1 := bel
     have r9 := hh.out.2.1.run hb9
     have x9 := (zaa r9).1 2
     simp at x9
     have r1 : RowAt w1 wr.heap.size 64 #[.string d.num, .string d.lab, .slice ya yn yc, .slice za zn zc, .bool d.block, .bool d.mark, .int .i64 d.follow, .string d.link, .int .i64 d.loops] := (RowAt.new wr _ _).run hb1
     have z0 := (zaa r1).1 0
     simp at z0
     have hbw := hid (And.intro r9 (hh.out.2.2.trans (hb9.mono hbs)))
     clear e0 e1 e2 e3 e4 e5 e6 e7 e8 hb1 hb9 r1 r9
     go_wp2
     go_ret
     exact ⟨zab (by rw [← HP0.out, hst.out]), hbw.out.2⟩
   obtain rfl : k = l.length := by omega
   have hen := hid (zan hh.out.1)
   go_wp2
   go_ret
   exact ⟨zab (by rw [← HP0.out, hen.out]), hh.out.2.2⟩
theorem zjb (d : LstD) (v : Value) (w : World) (hr : RLst w (d, v)) :
   Calls Tryz.prog 81 #[.agg #[.int .i64 d.num, .int .i64 d.pri, v]] w fun e w' => e = .returned (.int .i64 (lstE d)) ∧ Below w.heap.size w w' := by
 obtain ⟨num, pri, l⟩ := d
 simp only [RLst] at hr ⊢
 obtain ⟨a, cap, rfl⟩ := hr.shape
 have hml := hr.few
 have b0 : Below w.heap.size w (w.alloc (.cells #[.int .i64 num, .int .i64 pri, .slice a l.length cap] 93)) := bel
 have s0 := RowAt.new w 93 #[.int .i64 num, .int .i64 pri, .slice a l.length cap]
 obtain ⟨r, hrr⟩ : ∃ r, lstE ⟨num, pri, l⟩ = r := ⟨_, rfl⟩
 rw [hrr]
 have HR := hid hrr
 have HV := hid hr
 have H0 := hid (And.intro s0 b0)
 clear hr hrr s0 b0
 by_cases h1 : num < 1 ∨ 1048576 < num ∨ pri < 0 ∨ 9 < pri
 · have hq : r = 2 := by rw [← HR.out, lstE, if_pos h1]
   subst hq
   by_cases q1 : num < 1
   · go_enter Tryz.func81, Tryz.ntmps81
     go_wp2
     go_ret
     exact ⟨rfl, bel⟩
   by_cases q2 : 1048576 < num
   · go_enter Tryz.func81, Tryz.ntmps81
     go_wp2
     go_ret
     exact ⟨rfl, bel⟩
   by_cases q3 : pri < 0
   · go_enter Tryz.func81, Tryz.ntmps81
     go_wp2
     go_ret
     exact ⟨rfl, bel⟩
   have q4 : 9 < pri := by omega
   clear h1
   go_enter Tryz.func81, Tryz.ntmps81
   go_wp2
   go_ret
   exact ⟨rfl, bel⟩
 have q1 : ¬ num < 1 := by omega
 have q2 : ¬ 1048576 < num := by omega
 have q3 : ¬ pri < 0 := by omega
 have q4 : ¬ 9 < pri := by omega
 by_cases h4 : 64 < l.length
 · have h5 : (64 : Int) < (l.length : Int) := by omega
   have hq : r = 5 := by rw [← HR.out, lstE, if_neg h1, if_pos h4]
   subst hq
   clear h1
   go_enter Tryz.func81, Tryz.ntmps81
   go_wp2
   go_ret
   exact ⟨rfl, bel⟩
 have h5 : ¬ (64 : Int) < (l.length : Int) := by omega
 have HP0 := hid (show allB cueAtE l = r from by rw [← HR.out, lstE, if_neg h1, if_neg h4])
 clear h4 h1
 go_enter Tryz.func81, Tryz.ntmps81
 go_wp2
 go_loopw [3] (fun i wr => ∃ k : Nat, i = .int .i64 k ∧ Hid (LoopB cueAtE l k ∧ RowAt wr w.heap.size 93 #[.int .i64 num, .int .i64 pri, .slice a l.length cap] ∧ Below w.heap.size w wr)) (fun i _ => l.length - (intOf i).toNat)
 case atStart => exact ⟨0, rfl, hid ⟨zam _ _, H0.out⟩⟩
 case round =>
   obtain ⟨k, rfl, hh⟩ := hrel
   have hk := hh.out.1.2.1
   have hbs := hh.out.2.2.size
   obtain ⟨x1, x2, x3, x4, x5, x6⟩ := zaa hh.out.2.1
   have x7 := x1 2
   simp at x7
   by_cases hlt : k < l.length
   · have hlt3 : (k : Int) < (l.length : Int) := by omega
     obtain ⟨d, hd⟩ : ∃ d, l[k]? = some d := ⟨_, List.getElem?_eq_getElem hlt⟩
     obtain ⟨⟨y1, y2⟩, g, off, cap', he, hg, hc⟩ := HV.out.at_ (by decide) zbr hd
     cases he
     have HE := hid (fun (W : World) (hb : Below wr.heap.size wr W) => hc W (hh.out.2.2.trans (hb.mono hbs)))
     have hrd := (HE.out wr (Below.refl _ _)).2
     have hm1 := hrd.at_.moves.shape
     have hm2 := hrd.at_.parts.shape
     simp only at hm1 hm2
     obtain ⟨ya, yc, rfl⟩ := hm1
     obtain ⟨za, zc, rfl⟩ := hm2
     obtain ⟨yn, hyn⟩ : ∃ n, d.moves.length = n := ⟨_, rfl⟩
     obtain ⟨zn, hzn⟩ : ∃ n, d.parts.length = n := ⟨_, rfl⟩
     rw [hyn, hzn] at HE hrd
     have e0 : wr.cell? ⟨g, off + k * 9, none⟩ = some (.string d.num) := (HE.out wr (Below.refl _ _)).1 0 (by decide)
     have e1 : wr.cell? ⟨g, off + k * 9 + 1, none⟩ = some (.string d.lab) := (HE.out wr (Below.refl _ _)).1 1 (by decide)
     have e2 : wr.cell? ⟨g, off + k * 9 + 2, none⟩ = some (.slice ya yn yc) := (HE.out wr (Below.refl _ _)).1 2 (by decide)
     have e3 : wr.cell? ⟨g, off + k * 9 + 3, none⟩ = some (.slice za zn zc) := (HE.out wr (Below.refl _ _)).1 3 (by decide)
     have e4 : wr.cell? ⟨g, off + k * 9 + 4, none⟩ = some (.bool d.block) := (HE.out wr (Below.refl _ _)).1 4 (by decide)
     have e5 : wr.cell? ⟨g, off + k * 9 + 5, none⟩ = some (.bool d.mark) := (HE.out wr (Below.refl _ _)).1 5 (by decide)
     have e6 : wr.cell? ⟨g, off + k * 9 + 6, none⟩ = some (.int .i64 d.follow) := (HE.out wr (Below.refl _ _)).1 6 (by decide)
     have e7 : wr.cell? ⟨g, off + k * 9 + 7, none⟩ = some (.string d.link) := (HE.out wr (Below.refl _ _)).1 7 (by decide)
     have e8 : wr.cell? ⟨g, off + k * 9 + 8, none⟩ = some (.int .i64 d.loops) := (HE.out wr (Below.refl _ _)).1 8 (by decide)
     have hgr : g < wr.heap.size := by omega
     have hgn : ¬ g = wr.heap.size := by omega
     have hgw : ¬ g = w.heap.size := by omega
     obtain ⟨x, hx⟩ : ∃ x, cueE d = x := ⟨_, rfl⟩
     have hal : Below wr.heap.size wr wr := by exact Below.refl _ _
     have C := zxa d (.slice ya yn yc) (.slice za zn zc) wr (HE.out _ hal).2.at_ hrd.num (by have := hrd.lab; simp only at this; omega) hrd.link
     rw [hx] at C
     have HC := hid C
     have HX := hid hx
     have HD := hid hd
     clear hd hc hk hx C hal hyn hzn x1
     by_cases hx0 : x = 0
     · subst hx0
       by_cases hkz : k = 0
       · have hgo := hid (zah hh.out.1 HD.out (by subst hkz; exact zkb HX.out))
         have hkz2 : ¬ (0 : Int) < (k : Int) := by omega
         have hkz3 : decide (0 < k) = false := by simp; omega
         have hkz4 : decide ((0 : Int) < (k : Int)) = false := by simp; omega
         have hkz5 : ¬ 0 < k := by omega
         clear hkz hrd
         go_wp2_with fail
         refine HC.out.mono ?_
         rintro e w1 ⟨rfl, hb1⟩
         have hb9 : Below wr.heap.size wr w1 := bel
         have r9 := hh.out.2.1.run hb9
         have x9 := (zaa r9).1 2
         simp at x9
         have z0 : w1.cell? ⟨g, off + k * 9, none⟩ = some (.string d.num) := (HE.out w1 hb9).1 0 (by decide)
         have hbw := hid (And.intro r9 (hh.out.2.2.trans (hb9.mono hbs)))
         clear e0 e1 e2 e3 e4 e5 e6 e7 e8 hb1 hb9 r9
         go_wp2
         go_quiet (fail)
         go_wp2
         go_roundw
         case rel => exact ⟨k + 1, by go_num, hid ⟨hgo.out, by first | exact hbw.out.1 | exact hbw.out.1.drewN _, by have := hbw.out.2; exact bel⟩⟩
         case measure => simp [intOf]; omega
       obtain ⟨j, hj⟩ : ∃ j, k = j + 1 := ⟨k - 1, by omega⟩
       obtain ⟨q, hq⟩ : ∃ q, l[j]? = some q := ⟨_, List.getElem?_eq_getElem (by omega)⟩
       obtain ⟨⟨u1, u2⟩, g2, off2, cap2, he2, -, hc2⟩ := HV.out.at_ (by decide) zbr hq
       cases he2
       have HP := hid (fun (W : World) (hb : Below wr.heap.size wr W) => hc2 W (hh.out.2.2.trans (hb.mono hbs)))
       have hrq := (HP.out wr (Below.refl _ _)).2
       have hq5 : chk5 q.num.data.toList = 0 := zd2 (zk2 ((zb2 hq).symm.trans (hh.out.1.2.2 j (by omega))))
       have hd5 : chk5 d.num.data.toList = 0 := zd2 HX.out
       have hkz2 : (0 : Int) < (k : Int) := by omega
       have hkz5 : 0 < k := by omega
       have hk1 : (k : Int) - 1 = (j : Int) := by omega
       have hk2 : IntKind.i64.wrap ((k : Int) - 1) = (j : Int) := by rw [hk1]; exact IntWalk.i64_in _ (by omega)
       have hk3 : IntKind.i64.wrap (j : Int) = (j : Int) := IntWalk.i64_in _ (by omega)
       have hk5 : (0 : Int) ≤ (j : Int) := by omega
       have hk6 : (j : Int) < (l.length : Int) := by omega
       have hkj : j < k := by omega
       obtain ⟨t, ht⟩ : ∃ t, ord5 (val5 q.num.data.toList) (val5 d.num.data.toList) = t := ⟨_, rfl⟩
       have htt := zi7 (val5 q.num.data.toList) (val5 d.num.data.toList)
       rw [ht] at htt
       have H3 := fun W => zsd q.num d.num W hrq.num hrd.num hq5 hd5
       rw [ht] at H3
       have H3 := hid H3
       have hst := hid (fun (h : 0 ≤ t) => zad hh.out.1 HD.out (by subst hj; rw [zdy hq HX.out, if_pos (by simpa [h] using htt.symm)]) (by decide : (9 : Int) ≠ 0))
       have hgo := hid (fun (h : ¬ 0 ≤ t) => zah hh.out.1 HD.out (by subst hj; rw [zdy hq HX.out, if_neg (by simpa [h] using htt.symm)]))
       clear hj hq hc2 hkz hq5 hd5 hrq hrd htt ht
       go_wp2_with fail
       refine HC.out.mono ?_
       rintro e w1 ⟨rfl, hb1⟩
       have hb9 : Below wr.heap.size wr w1 := bel
       have r9 := hh.out.2.1.run hb9
       have x9 := (zaa r9).1 2
       simp at x9
       have z0 : w1.cell? ⟨g, off + k * 9, none⟩ = some (.string d.num) := (HE.out w1 hb9).1 0 (by decide)
       have hbw := hid (And.intro r9 (hh.out.2.2.trans (hb9.mono hbs)))
       have p0 : w1.cell? ⟨g, off + j * 9, none⟩ = some (.string q.num) := (HP.out w1 hb9).1 0 (by decide)
       have HW := hid hb9
       have hb99 := hb9
       have HK := hid (fun (W : World) (hb : Below w1.heap.size w1 W) => And.intro ((zaa (r9.run hb)).1 2) (And.intro ((HP.out W (zag hb99 hb99.size hb)).1 0 (by decide)) ((HE.out W (zag hb99 hb99.size hb)).1 0 (by decide))))
       have HR9 := hid r9
       clear e0 e1 e2 e3 e4 e5 e6 e7 e8 hb1 hb9 r9 hbw
       go_wp2
       go_region_held3 (fun w' => w'.cell? ⟨w.heap.size, 2, none⟩ = some (.slice (some ⟨g, off, none⟩) l.length cap) ∧ w'.cell? ⟨g, off + j * 9, none⟩ = some (.string q.num) ∧ w'.cell? ⟨g, off + k * 9, none⟩ = some (.string d.num)) (first | exact HK.out _ bel | go_keep) ((go_at_call 183; refine (H3.out _).mono ?_; rintro e w4 ⟨rfl, hb4⟩))
       all_goals
         have hb6 : Below w1.heap.size w1 w4 := bel
         have hb7 : Below wr.heap.size wr w4 := zag HW.out HW.out.size hb6
         have hbw := hid (And.intro (HR9.out.run hb6) (hh.out.2.2.trans (hb7.mono hbs)))
         clear hb7 hb6 hb4
         by_cases ht0 : 0 ≤ t
         · have hs2 := hid (hst.out (by omega))
           go_wp2
           go_ret
           exact ⟨zab (by rw [← HP0.out, hs2.out]), by have := hbw.out.2; exact bel⟩
         have hg2 := hid (hgo.out (by omega))
         go_wp2
         go_roundw
         case rel => exact ⟨k + 1, by go_num, hid ⟨hg2.out, hbw.out⟩⟩
         case measure => simp [intOf]; omega
     have hx1 : (x == 0) = false := by simpa using hx0
     have hst := hid (zad hh.out.1 HD.out (zkw HX.out hx0) hx0)
     clear hrd
     go_wp2_with fail
     refine HC.out.mono ?_
     rintro e w1 ⟨rfl, hb1⟩
     have hb9 : Below wr.heap.size wr w1 := bel
     have r9 := hh.out.2.1.run hb9
     have x9 := (zaa r9).1 2
     simp at x9
     have z0 : w1.cell? ⟨g, off + k * 9, none⟩ = some (.string d.num) := (HE.out w1 hb9).1 0 (by decide)
     have hbw := hid (And.intro r9 (hh.out.2.2.trans (hb9.mono hbs)))
     clear e0 e1 e2 e3 e4 e5 e6 e7 e8 hb1 hb9 r9
     go_wp2
     go_ret
     exact ⟨zab (by rw [← HP0.out, hst.out]), hbw.out.2⟩
   obtain rfl : k = l.length := by omega
   have hen := hid (zan hh.out.1)
   go_wp2
   go_ret
   exact ⟨zab (by rw [← HP0.out, hen.out]), hh.out.2.2⟩
theorem zs6 (v : Value) (l : List LstD) (w : World) (hv : RL 3 lstA RLst w v l) :
   Calls Tryz.prog 109 #[v] w fun e w' => e = .returned (.int .i64 (listsE l)) ∧ Below w.heap.size w w' := by
 obtain ⟨a, cap, rfl⟩ := hv.shape
 have hml := hv.few
 by_cases h4 : 8 < l.length
 · have h5 : (8 : Int) < (l.length : Int) := by omega
   rw [listsE, if_pos h4]
   clear hv
   go_enter Tryz.func109, Tryz.ntmps109
   go_wp2
   go_ret
   exact ⟨rfl, bel⟩
 have h5 : ¬ (8 : Int) < (l.length : Int) := by omega
 rw [listsE, if_neg h4]
 have HV := hid hv
 clear hv h4
 go_enter Tryz.func109, Tryz.ntmps109
 go_wp2
 go_loopw [3] (fun i wr => ∃ k : Nat, i = .int .i64 k ∧ Hid (LoopB (tabE lstE LstD.num) l k ∧ Below w.heap.size w wr)) (fun i _ => l.length - (intOf i).toNat)
 case atStart => exact ⟨0, rfl, hid ⟨zam _ _, Below.refl _ _⟩⟩
 case round =>
   obtain ⟨k, rfl, hh⟩ := hrel
   have hk := hh.out.1.2.1
   have hbs := hh.out.2.size
   by_cases hlt : k < l.length
   · have hlt3 : (k : Int) < (l.length : Int) := by omega
     obtain ⟨d, hd⟩ : ∃ d, l[k]? = some d := ⟨_, List.getElem?_eq_getElem hlt⟩
     obtain ⟨y, g, off, cap', he, hg, hc⟩ := HV.out.at_ (by decide) zbz hd
     cases he
     have HE := hid (fun (W : World) (hb : Below wr.heap.size wr W) => hc W (hh.out.2.trans (hb.mono hbs)))
     obtain ⟨ya, yn, yc, rfl⟩ := zjv (HE.out wr (Below.refl _ _)).2
     have e0 : wr.cell? ⟨g, off + k * 3, none⟩ = some (.int .i64 d.num) := (HE.out wr (Below.refl _ _)).1 0 (by decide)
     have e1 : wr.cell? ⟨g, off + k * 3 + 1, none⟩ = some (.int .i64 d.pri) := (HE.out wr (Below.refl _ _)).1 1 (by decide)
     have e2 : wr.cell? ⟨g, off + k * 3 + 2, none⟩ = some (.slice ya yn yc) := (HE.out wr (Below.refl _ _)).1 2 (by decide)
     have hgr : g < wr.heap.size := by omega
     obtain ⟨x, hx⟩ : ∃ x, lstE d = x := ⟨_, rfl⟩
     have C := zjb d _ wr (HE.out wr (Below.refl _ _)).2
     rw [hx] at C
     have HC := hid C
     have HX := hid hx
     have HD := hid hd
     clear hd hc hk hx C
     by_cases hx0 : x = 0
     · subst hx0
       by_cases hkz : k = 0
       · have hgo := hid (zah hh.out.1 HD.out (by subst hkz; exact zcj HX.out))
         have hkz2 : ¬ (0 : Int) < (k : Int) := by omega
         have hkz3 : decide (0 < k) = false := by simp; omega
         have hkz4 : decide ((0 : Int) < (k : Int)) = false := by simp; omega
         have hkz5 : ¬ 0 < k := by omega
         clear hkz
         go_wp2_with fail
         refine HC.out.mono ?_
         rintro e w1 ⟨rfl, hb1⟩
         have hbw := hid (hh.out.2.trans (hb1.mono hbs))
         go_wp2
         go_quiet (fail)
         go_wp2
         go_roundw
         case rel => exact ⟨k + 1, by go_num, hid ⟨hgo.out, by have := hbw.out; exact bel⟩⟩
         case measure => simp [intOf]; omega
       obtain ⟨j, hj⟩ : ∃ j, k = j + 1 := ⟨k - 1, by omega⟩
       obtain ⟨q, hq⟩ : ∃ q, l[j]? = some q := ⟨_, List.getElem?_eq_getElem (by omega)⟩
       obtain ⟨y2, g2, off2, cap2, he2, -, hc2⟩ := HV.out.at_ (by decide) zbz hq
       cases he2
       have HP := hid (fun (W : World) (hb : Below wr.heap.size wr W) => (hc2 W (hh.out.2.trans (hb.mono hbs))).1 0 (by decide))
       have hkz2 : (0 : Int) < (k : Int) := by omega
       have hkz5 : 0 < k := by omega
       have hk1 : (k : Int) - 1 = (j : Int) := by omega
       have hk2 : IntKind.i64.wrap ((k : Int) - 1) = (j : Int) := by rw [hk1]; exact IntWalk.i64_in _ (by omega)
       have hk3 : IntKind.i64.wrap (j : Int) = (j : Int) := IntWalk.i64_in _ (by omega)
       have hk5 : (0 : Int) ≤ (j : Int) := by omega
       have hk6 : (j : Int) < (l.length : Int) := by omega
       have hst := hid (fun (h : d.num ≤ q.num) => zad hh.out.1 HD.out (by subst hj; rw [za8 hq HX.out, if_pos h]) (by decide : (9 : Int) ≠ 0))
       have hgo := hid (fun (h : ¬ d.num ≤ q.num) => zah hh.out.1 HD.out (by subst hj; rw [za8 hq HX.out, if_neg h]))
       clear hj hq hc2 hkz
       by_cases ho : d.num ≤ q.num
       · have hs2 := hid (hst.out ho)
         go_wp2_with fail
         refine HC.out.mono ?_
         rintro e w1 ⟨rfl, hb1⟩
         have f0 : w1.cell? ⟨g, off + k * 3, none⟩ = some (.int .i64 d.num) := (HE.out w1 hb1).1 0 (by decide)
         have p0 : w1.cell? ⟨g, off + j * 3, none⟩ = some (.int .i64 q.num) := HP.out w1 hb1
         have hbw := hid (hh.out.2.trans (hb1.mono hbs))
         clear e0 e1 e2
         go_wp2
         go_quiet (fail)
         go_wp2
         go_ret
         exact ⟨zab hs2.out.symm, by have := hbw.out; exact bel⟩
       have hg2 := hid (hgo.out ho)
       go_wp2_with fail
       refine HC.out.mono ?_
       rintro e w1 ⟨rfl, hb1⟩
       have f0 : w1.cell? ⟨g, off + k * 3, none⟩ = some (.int .i64 d.num) := (HE.out w1 hb1).1 0 (by decide)
       have p0 : w1.cell? ⟨g, off + j * 3, none⟩ = some (.int .i64 q.num) := HP.out w1 hb1
       have hbw := hid (hh.out.2.trans (hb1.mono hbs))
       clear e0 e1 e2
       go_wp2
       go_quiet (fail)
       go_wp2
       go_roundw
       case rel => exact ⟨k + 1, by go_num, hid ⟨hg2.out, by have := hbw.out; exact bel⟩⟩
       case measure => simp [intOf]; omega
     have hx1 : (x == 0) = false := by simpa using hx0
     have hst := hid (zad hh.out.1 HD.out (zcf HX.out hx0) hx0)
     go_wp2_with fail
     refine HC.out.mono ?_
     rintro e w1 ⟨rfl, hb1⟩
     go_wp2
     go_ret
     exact ⟨zab hst.out.symm, hh.out.2.trans (hb1.mono hbs)⟩
   obtain rfl : k = l.length := by omega
   have hen := hid (zan hh.out.1)
   go_wp2
   go_ret
   exact ⟨zab hen.out.symm, hh.out.2⟩
theorem zuh (t : ByteArray) (u1 u2 u3 u4 u5 u7 u8 : Value) (v : Value) (l : List LstD) (w : World) (hv : RL 3 lstA RLst w v l) :
   Calls Tryz.prog 192 #[.agg #[.string t, u1, u2, u3, u4, u5, v, u7, u8]] w fun e w' => e = .returned (.int .i64 (listsE l)) ∧ Below w.heap.size w w' := by
 obtain ⟨a, cap, rfl⟩ := hv.shape
 have hml := hv.few
 have b0 : Below w.heap.size w (w.alloc (.cells #[.string t, u1, u2, u3, u4, u5, .slice a l.length cap, u7, u8] 31)) := bel
 have s0 := RowAt.new w 31 #[.string t, u1, u2, u3, u4, u5, .slice a l.length cap, u7, u8]
 have H0 := hid (And.intro s0 b0)
 clear s0 b0
 by_cases h4 : 8 < l.length
 · have h5 : (8 : Int) < (l.length : Int) := by omega
   rw [listsE, if_pos h4]
   clear hv
   go_enter Tryz.func192, Tryz.ntmps192
   go_wp2
   go_ret
   exact ⟨rfl, bel⟩
 have h5 : ¬ (8 : Int) < (l.length : Int) := by omega
 rw [listsE, if_neg h4]
 have HV := hid hv
 clear hv h4
 go_enter Tryz.func192, Tryz.ntmps192
 go_wp2
 go_loopw [3, 4, 13] (fun _ _ i wr => ∃ k : Nat, i = .int .i64 k ∧ Hid (LoopB (tabE lstE LstD.num) l k ∧ RowAt wr w.heap.size 31 #[.string t, u1, u2, u3, u4, u5, .slice a l.length cap, u7, u8] ∧ Below w.heap.size w wr)) (fun _ _ i _ => l.length - (intOf i).toNat)
 case atStart => exact ⟨0, rfl, hid ⟨zam _ _, H0.out.1, H0.out.2⟩⟩
 case round =>
   obtain ⟨k, rfl, hh⟩ := hrel
   have hk := hh.out.1.2.1
   have hbs := hh.out.2.2.size
   by_cases hlt : k < l.length
   · have hlt3 : (k : Int) < (l.length : Int) := by omega
     obtain ⟨d, hd⟩ : ∃ d, l[k]? = some d := ⟨_, List.getElem?_eq_getElem hlt⟩
     obtain ⟨y, g, off, cap', he, hg, hc⟩ := HV.out.at_ (by decide) zbz hd
     cases he
     have HE := hid (fun (W : World) (hb : Below wr.heap.size wr W) => hc W (hh.out.2.2.trans (hb.mono hbs)))
     obtain ⟨ya, yn, yc, rfl⟩ := zjv (HE.out wr (Below.refl _ _)).2
     have e0 : wr.cell? ⟨g, off + k * 3, none⟩ = some (.int .i64 d.num) := (HE.out wr (Below.refl _ _)).1 0 (by decide)
     have e1 : wr.cell? ⟨g, off + k * 3 + 1, none⟩ = some (.int .i64 d.pri) := (HE.out wr (Below.refl _ _)).1 1 (by decide)
     have e2 : wr.cell? ⟨g, off + k * 3 + 2, none⟩ = some (.slice ya yn yc) := (HE.out wr (Below.refl _ _)).1 2 (by decide)
     have hgr : g < wr.heap.size := by omega
     have hgn : ¬ g = wr.heap.size := by omega
     obtain ⟨x1, x2, x3, x4, x5, x6⟩ := zaa hh.out.2.1
     obtain ⟨x, hx⟩ : ∃ x, lstE d = x := ⟨_, rfl⟩
     have hal : Below wr.heap.size wr (wr.alloc (.cells #[.int .i64 d.num, .int .i64 d.pri, .slice ya yn yc] 93)) := bel
     have C := zs9 d _ (wr.alloc (.cells #[.int .i64 d.num, .int .i64 d.pri, .slice ya yn yc] 93)) (HE.out _ hal).2
     rw [hx] at C
     have HC := hid C
     have HX := hid hx
     have HD := hid hd
     clear hd hc hk hx C hal
     by_cases hx0 : x = 0
     · subst hx0
       by_cases hkz : k = 0
       · have hgo := hid (zah hh.out.1 HD.out (by subst hkz; exact zcj HX.out))
         have hkz2 : ¬ (0 : Int) < (k : Int) := by omega
         have hkz3 : decide (0 < k) = false := by simp; omega
         have hkz4 : decide ((0 : Int) < (k : Int)) = false := by simp; omega
         have hkz5 : ¬ 0 < k := by omega
         clear hkz
         go_wp2_with fail
         refine HC.out.mono ?_
         rintro e w1 ⟨rfl, hb1⟩
         have hb9 : Below wr.heap.size wr w1 := bel
         have r1 : RowAt w1 wr.heap.size 93 #[.int .i64 d.num, .int .i64 d.pri, .slice ya yn yc] := (RowAt.new wr _ _).run hb1
         have z0 := (zaa r1).1 0
         simp at z0
         have HB1 := hid hb9
         clear e0 e1 e2 x1 x2 x3 x4 x5 x6
         obtain ⟨x1, x2, x3, x4, x5, x6⟩ := zaa (hh.out.2.1.run hb9)
         have hbw := hid (hh.out.2.2.trans (hb9.mono hbs))
         clear hb1 hb9 r1
         go_wp2
         go_quiet (fail)
         go_wp2
         go_roundw
         case rel => exact ⟨k + 1, by go_num, hid ⟨hgo.out, by first | exact hh.out.2.1.run HB1.out | exact (hh.out.2.1.run HB1.out).drewN _, by have := hbw.out; exact bel⟩⟩
         case measure => simp [intOf]; omega
       obtain ⟨j, hj⟩ : ∃ j, k = j + 1 := ⟨k - 1, by omega⟩
       obtain ⟨q, hq⟩ : ∃ q, l[j]? = some q := ⟨_, List.getElem?_eq_getElem (by omega)⟩
       obtain ⟨y2, g2, off2, cap2, he2, -, hc2⟩ := HV.out.at_ (by decide) zbz hq
       cases he2
       have HP := hid (fun (W : World) (hb : Below wr.heap.size wr W) => (hc2 W (hh.out.2.2.trans (hb.mono hbs))).1 0 (by decide))
       have hkz2 : (0 : Int) < (k : Int) := by omega
       have hkz5 : 0 < k := by omega
       have hk1 : (k : Int) - 1 = (j : Int) := by omega
       have hk2 : IntKind.i64.wrap ((k : Int) - 1) = (j : Int) := by rw [hk1]; exact IntWalk.i64_in _ (by omega)
       have hk3 : IntKind.i64.wrap (j : Int) = (j : Int) := IntWalk.i64_in _ (by omega)
       have hk5 : (0 : Int) ≤ (j : Int) := by omega
       have hk6 : (j : Int) < (l.length : Int) := by omega
       have hst := hid (fun (h : d.num ≤ q.num) => zad hh.out.1 HD.out (by subst hj; rw [za8 hq HX.out, if_pos h]) (by decide : (9 : Int) ≠ 0))
       have hgo := hid (fun (h : ¬ d.num ≤ q.num) => zah hh.out.1 HD.out (by subst hj; rw [za8 hq HX.out, if_neg h]))
       clear hj hq hc2 hkz
       by_cases ho : d.num ≤ q.num
       · have hs2 := hid (hst.out ho)
         go_wp2_with fail
         refine HC.out.mono ?_
         rintro e w1 ⟨rfl, hb1⟩
         have hb9 : Below wr.heap.size wr w1 := bel
         have r1 : RowAt w1 wr.heap.size 93 #[.int .i64 d.num, .int .i64 d.pri, .slice ya yn yc] := (RowAt.new wr _ _).run hb1
         have z0 := (zaa r1).1 0
         simp at z0
         have HB1 := hid hb9
         clear e0 e1 e2 x1 x2 x3 x4 x5 x6
         obtain ⟨x1, x2, x3, x4, x5, x6⟩ := zaa (hh.out.2.1.run hb9)
         have p0 : w1.cell? ⟨g, off + j * 3, none⟩ = some (.int .i64 q.num) := HP.out w1 hb9
         have hbw := hid (hh.out.2.2.trans (hb9.mono hbs))
         clear hb1 hb9 r1
         go_wp2
         go_quiet (fail)
         go_wp2
         go_ret
         exact ⟨zab hs2.out.symm, by have := hbw.out; exact bel⟩
       have hg2 := hid (hgo.out ho)
       go_wp2_with fail
       refine HC.out.mono ?_
       rintro e w1 ⟨rfl, hb1⟩
       have hb9 : Below wr.heap.size wr w1 := bel
       have r1 : RowAt w1 wr.heap.size 93 #[.int .i64 d.num, .int .i64 d.pri, .slice ya yn yc] := (RowAt.new wr _ _).run hb1
       have z0 := (zaa r1).1 0
       simp at z0
       have HB1 := hid hb9
       clear e0 e1 e2 x1 x2 x3 x4 x5 x6
       obtain ⟨x1, x2, x3, x4, x5, x6⟩ := zaa (hh.out.2.1.run hb9)
       have p0 : w1.cell? ⟨g, off + j * 3, none⟩ = some (.int .i64 q.num) := HP.out w1 hb9
       have hbw := hid (hh.out.2.2.trans (hb9.mono hbs))
       clear hb1 hb9 r1
       go_wp2
       go_quiet (fail)
       go_wp2
       go_roundw
       case rel => exact ⟨k + 1, by go_num, hid ⟨hg2.out, by first | exact hh.out.2.1.run HB1.out | exact (hh.out.2.1.run HB1.out).drewN _, by have := hbw.out; exact bel⟩⟩
       case measure => simp [intOf]; omega
     have hx1 : (x == 0) = false := by simpa using hx0
     have hst := hid (zad hh.out.1 HD.out (zcf HX.out hx0) hx0)
     go_wp2_with fail
     refine HC.out.mono ?_
     rintro e w1 ⟨rfl, hb1⟩
     have hb9 : Below wr.heap.size wr w1 := bel
     go_wp2
     go_ret
     exact ⟨zab hst.out.symm, hh.out.2.2.trans (hb9.mono hbs)⟩
   obtain rfl : k = l.length := by omega
   have hen := hid (zan hh.out.1)
   go_wp2
   go_ret
   exact ⟨zab hen.out.symm, hh.out.2.2⟩
end Go.Proofs.YtjeigphhepngmaaGreatDoor
