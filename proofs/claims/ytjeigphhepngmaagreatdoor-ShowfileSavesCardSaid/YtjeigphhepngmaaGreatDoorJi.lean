/- -/
import Derived.Test.YtjeigphhepngmaaGreatDoorJf
namespace Go.Proofs.YtjeigphhepngmaaGreatDoor
open Go.RowKit
open Go.Lib (hid)
set_option maxHeartbeats 8000000
set_option maxRecDepth 100000
theorem zcf {α : Type} {chk : α → Int} {num : α → Int} {p : List α} {d : α} {x : Int} (h : chk d = x) (h0 : x ≠ 0) : tabE chk num p d = x := by rw [tabE, if_pos (by rw [h]; exact h0), h]
theorem zcj {α : Type} {chk : α → Int} {num : α → Int} {d : α} (h : chk d = 0) : tabE chk num [] d = 0 := by rw [tabE, if_neg (by rw [h]; decide)]; rfl
theorem za8 {α : Type} {chk : α → Int} {num : α → Int} {l : List α} {j : Nat} {q d : α} (hq : l[j]? = some q) (h : chk d = 0) : tabE chk num (l.take (j + 1)) d = if num d ≤ num q then 9 else 0 := by rw [tabE, if_neg (by rw [h]; decide), zbs hq]
theorem zkm {w : World} {d : GrpD} {y : Value} (h : RGrp w (d, y)) : ∃ a n c, y = .slice a n c := by obtain ⟨a, c, e⟩ := h.1.shape; exact ⟨a, _, c, e⟩
theorem zjv {w : World} {d : LstD} {y : Value} (h : RLst w (d, y)) : ∃ a n c, y = .slice a n c := by obtain ⟨a, c, e⟩ := RL.shape h; exact ⟨a, _, c, e⟩
theorem zjr {w : World} {d : SubD} {y : Value} (h : RSub w (d, y)) : ∃ a n c, y = .slice a n c := by obtain ⟨a, c, e⟩ := ListAt.shape h; exact ⟨a, _, c, e⟩
theorem zfe {w : World} {d : EffD} {y : Value} (h : REff w (d, y)) : ∃ a n c, y = .slice a n c := by obtain ⟨a, c, e⟩ := ListAt.shape h; exact ⟨a, _, c, e⟩
theorem zlh {w : World} {d : PalD} {y : Value} (h : RPal w (d, y)) : ∃ a n c, y = .slice a n c := by obtain ⟨a, c, e⟩ := ListAt.shape h; exact ⟨a, _, c, e⟩
theorem zsc (v : Value) (l : List GrpD) (w : World) (hv : RL 2 grpA RGrp w v l) :
   Calls Tryz.prog 107 #[v] w fun e w' => e = .returned (.int .i64 (grpsE l)) ∧ Below w.heap.size w w' := by
 obtain ⟨a, cap, rfl⟩ := hv.shape
 have hml := hv.few
 by_cases h4 : 32 < l.length
 · have h5 : (32 : Int) < (l.length : Int) := by omega
   rw [grpsE, if_pos h4]
   clear hv
   go_enter Tryz.func107, Tryz.ntmps107
   go_wp2
   go_ret
   exact ⟨rfl, bel⟩
 have h5 : ¬ (32 : Int) < (l.length : Int) := by omega
 rw [grpsE, if_neg h4]
 have HV := hid hv
 clear hv h4
 go_enter Tryz.func107, Tryz.ntmps107
 go_wp2
 go_loopw [3] (fun i wr => ∃ k : Nat, i = .int .i64 k ∧ Hid (LoopB (tabE grpE GrpD.num) l k ∧ Below w.heap.size w wr)) (fun i _ => l.length - (intOf i).toNat)
 case atStart => exact ⟨0, rfl, hid ⟨zam _ _, Below.refl _ _⟩⟩
 case round =>
   obtain ⟨k, rfl, hh⟩ := hrel
   have hk := hh.out.1.2.1
   have hbs := hh.out.2.size
   by_cases hlt : k < l.length
   · have hlt3 : (k : Int) < (l.length : Int) := by omega
     obtain ⟨d, hd⟩ : ∃ d, l[k]? = some d := ⟨_, List.getElem?_eq_getElem hlt⟩
     obtain ⟨y, g, off, cap', he, hg, hc⟩ := HV.out.at_ (by decide) zbf hd
     cases he
     have HE := hid (fun (W : World) (hb : Below wr.heap.size wr W) => hc W (hh.out.2.trans (hb.mono hbs)))
     obtain ⟨ya, yn, yc, rfl⟩ := zkm (HE.out wr (Below.refl _ _)).2
     have e0 : wr.cell? ⟨g, off + k * 2, none⟩ = some (.int .i64 d.num) := (HE.out wr (Below.refl _ _)).1 0 (by decide)
     have e1 : wr.cell? ⟨g, off + k * 2 + 1, none⟩ = some (.slice ya yn yc) := (HE.out wr (Below.refl _ _)).1 1 (by decide)
     have hgr : g < wr.heap.size := by omega
     obtain ⟨x, hx⟩ : ∃ x, grpE d = x := ⟨_, rfl⟩
     have C := zuj d _ wr (HE.out wr (Below.refl _ _)).2
     rw [hx] at C
     have HC := hid C
     have HX := hid hx
     have HD := hid hd
     clear hd hc hk hx C
     by_cases hx0 : x = 0
     · subst hx0
       by_cases hkz : k = 0
       · have hgo := hid (zah hh.out.1 HD.out (by subst hkz; exact zcj HX.out))
         have hkz2 : ¬ (0 : Int) < (k : Int) := by omega
         have hkz3 : decide (0 < k) = false := by simp; omega
         have hkz4 : decide ((0 : Int) < (k : Int)) = false := by simp; omega
         have hkz5 : ¬ 0 < k := by omega
         clear hkz
         go_wp2_with fail
         refine HC.out.mono ?_
         rintro e w1 ⟨rfl, hb1⟩
         have hbw := hid (hh.out.2.trans (hb1.mono hbs))
         go_wp2
         go_quiet (fail)
         go_wp2
         go_roundw
         case rel => exact ⟨k + 1, by go_num, hid ⟨hgo.out, by have := hbw.out; exact bel⟩⟩
         case measure => simp [intOf]; omega
       obtain ⟨j, hj⟩ : ∃ j, k = j + 1 := ⟨k - 1, by omega⟩
       obtain ⟨q, hq⟩ : ∃ q, l[j]? = some q := ⟨_, List.getElem?_eq_getElem (by omega)⟩
       obtain ⟨y2, g2, off2, cap2, he2, -, hc2⟩ := HV.out.at_ (by decide) zbf hq
       cases he2
       have HP := hid (fun (W : World) (hb : Below wr.heap.size wr W) => (hc2 W (hh.out.2.trans (hb.mono hbs))).1 0 (by decide))
       have hkz2 : (0 : Int) < (k : Int) := by omega
       have hkz5 : 0 < k := by omega
       have hk1 : (k : Int) - 1 = (j : Int) := by omega
       have hk2 : IntKind.i64.wrap ((k : Int) - 1) = (j : Int) := by rw [hk1]; exact IntWalk.i64_in _ (by omega)
       have hk3 : IntKind.i64.wrap (j : Int) = (j : Int) := IntWalk.i64_in _ (by omega)
       have hk5 : (0 : Int) ≤ (j : Int) := by omega
       have hk6 : (j : Int) < (l.length : Int) := by omega
       have hst := hid (fun (h : d.num ≤ q.num) => zad hh.out.1 HD.out (by subst hj; rw [za8 hq HX.out, if_pos h]) (by decide : (9 : Int) ≠ 0))
       have hgo := hid (fun (h : ¬ d.num ≤ q.num) => zah hh.out.1 HD.out (by subst hj; rw [za8 hq HX.out, if_neg h]))
       clear hj hq hc2 hkz
       by_cases ho : d.num ≤ q.num
       · have hs2 := hid (hst.out ho)
         go_wp2_with fail
         refine HC.out.mono ?_
         rintro e w1 ⟨rfl, hb1⟩
         have f0 : w1.cell? ⟨g, off + k * 2, none⟩ = some (.int .i64 d.num) := (HE.out w1 hb1).1 0 (by decide)
         have p0 : w1.cell? ⟨g, off + j * 2, none⟩ = some (.int .i64 q.num) := HP.out w1 hb1
         have hbw := hid (hh.out.2.trans (hb1.mono hbs))
         clear e0 e1
         go_wp2
         go_quiet (fail)
         go_wp2
         go_ret
         exact ⟨zab hs2.out.symm, by have := hbw.out; exact bel⟩
       have hg2 := hid (hgo.out ho)
       go_wp2_with fail
       refine HC.out.mono ?_
       rintro e w1 ⟨rfl, hb1⟩
       have f0 : w1.cell? ⟨g, off + k * 2, none⟩ = some (.int .i64 d.num) := (HE.out w1 hb1).1 0 (by decide)
       have p0 : w1.cell? ⟨g, off + j * 2, none⟩ = some (.int .i64 q.num) := HP.out w1 hb1
       have hbw := hid (hh.out.2.trans (hb1.mono hbs))
       clear e0 e1
       go_wp2
       go_quiet (fail)
       go_wp2
       go_roundw
       case rel => exact ⟨k + 1, by go_num, hid ⟨hg2.out, by have := hbw.out; exact bel⟩⟩
       case measure => simp [intOf]; omega
     have hx1 : (x == 0) = false := by simpa using hx0
     have hst := hid (zad hh.out.1 HD.out (zcf HX.out hx0) hx0)
     go_wp2_with fail
     refine HC.out.mono ?_
     rintro e w1 ⟨rfl, hb1⟩
     go_wp2
     go_ret
     exact ⟨zab hst.out.symm, hh.out.2.trans (hb1.mono hbs)⟩
   obtain rfl : k = l.length := by omega
   have hen := hid (zan hh.out.1)
   go_wp2
   go_ret
   exact ⟨zab hen.out.symm, hh.out.2⟩
theorem zu8 (v : Value) (l : List GrpD) (w : World) (hv : RL 2 grpA RGrp w v l) :
   Calls Tryz.prog 189 #[v] w fun e w' => e = .returned (.int .i64 (grpsE l)) ∧ Below w.heap.size w w' := by
 obtain ⟨a, cap, rfl⟩ := hv.shape
 have hml := hv.few
 by_cases h4 : 32 < l.length
 · have h5 : (32 : Int) < (l.length : Int) := by omega
   rw [grpsE, if_pos h4]
   clear hv
   go_enter Tryz.func189, Tryz.ntmps189
   go_wp2
   go_ret
   exact ⟨rfl, bel⟩
 have h5 : ¬ (32 : Int) < (l.length : Int) := by omega
 rw [grpsE, if_neg h4]
 have HV := hid hv
 clear hv h4
 go_enter Tryz.func189, Tryz.ntmps189
 go_wp2
 go_loopw [3, 4, 11] (fun _ _ i wr => ∃ k : Nat, i = .int .i64 k ∧ Hid (LoopB (tabE grpE GrpD.num) l k ∧ Below w.heap.size w wr)) (fun _ _ i _ => l.length - (intOf i).toNat)
 case atStart => exact ⟨0, rfl, hid ⟨zam _ _, Below.refl _ _⟩⟩
 case round =>
   obtain ⟨k, rfl, hh⟩ := hrel
   have hk := hh.out.1.2.1
   have hbs := hh.out.2.size
   by_cases hlt : k < l.length
   · have hlt3 : (k : Int) < (l.length : Int) := by omega
     obtain ⟨d, hd⟩ : ∃ d, l[k]? = some d := ⟨_, List.getElem?_eq_getElem hlt⟩
     obtain ⟨y, g, off, cap', he, hg, hc⟩ := HV.out.at_ (by decide) zbf hd
     cases he
     have HE := hid (fun (W : World) (hb : Below wr.heap.size wr W) => hc W (hh.out.2.trans (hb.mono hbs)))
     obtain ⟨ya, yn, yc, rfl⟩ := zkm (HE.out wr (Below.refl _ _)).2
     have e0 : wr.cell? ⟨g, off + k * 2, none⟩ = some (.int .i64 d.num) := (HE.out wr (Below.refl _ _)).1 0 (by decide)
     have e1 : wr.cell? ⟨g, off + k * 2 + 1, none⟩ = some (.slice ya yn yc) := (HE.out wr (Below.refl _ _)).1 1 (by decide)
     have hgr : g < wr.heap.size := by omega
     have hgn : ¬ g = wr.heap.size := by omega
     obtain ⟨x, hx⟩ : ∃ x, grpE d = x := ⟨_, rfl⟩
     have hal : Below wr.heap.size wr (wr.alloc (.cells #[.int .i64 d.num, .slice ya yn yc] 147)) := bel
     have C := zsi d _ (wr.alloc (.cells #[.int .i64 d.num, .slice ya yn yc] 147)) (HE.out _ hal).2
     rw [hx] at C
     have HC := hid C
     have HX := hid hx
     have HD := hid hd
     clear hd hc hk hx C hal
     by_cases hx0 : x = 0
     · subst hx0
       by_cases hkz : k = 0
       · have hgo := hid (zah hh.out.1 HD.out (by subst hkz; exact zcj HX.out))
         have hkz2 : ¬ (0 : Int) < (k : Int) := by omega
         have hkz3 : decide (0 < k) = false := by simp; omega
         have hkz4 : decide ((0 : Int) < (k : Int)) = false := by simp; omega
         have hkz5 : ¬ 0 < k := by omega
         clear hkz
         go_wp2_with fail
         refine HC.out.mono ?_
         rintro e w1 ⟨rfl, hb1⟩
         have hb9 : Below wr.heap.size wr w1 := bel
         have r1 : RowAt w1 wr.heap.size 147 #[.int .i64 d.num, .slice ya yn yc] := (RowAt.new wr _ _).run hb1
         have z0 := (zaa r1).1 0
         simp at z0
         have HB1 := hid hb9
         clear e0 e1
         have hbw := hid (hh.out.2.trans (hb9.mono hbs))
         clear hb1 hb9 r1
         go_wp2
         go_quiet (fail)
         go_wp2
         go_roundw
         case rel => exact ⟨k + 1, by go_num, hid ⟨hgo.out, by have := hbw.out; exact bel⟩⟩
         case measure => simp [intOf]; omega
       obtain ⟨j, hj⟩ : ∃ j, k = j + 1 := ⟨k - 1, by omega⟩
       obtain ⟨q, hq⟩ : ∃ q, l[j]? = some q := ⟨_, List.getElem?_eq_getElem (by omega)⟩
       obtain ⟨y2, g2, off2, cap2, he2, -, hc2⟩ := HV.out.at_ (by decide) zbf hq
       cases he2
       have HP := hid (fun (W : World) (hb : Below wr.heap.size wr W) => (hc2 W (hh.out.2.trans (hb.mono hbs))).1 0 (by decide))
       have hkz2 : (0 : Int) < (k : Int) := by omega
       have hkz5 : 0 < k := by omega
       have hk1 : (k : Int) - 1 = (j : Int) := by omega
       have hk2 : IntKind.i64.wrap ((k : Int) - 1) = (j : Int) := by rw [hk1]; exact IntWalk.i64_in _ (by omega)
       have hk3 : IntKind.i64.wrap (j : Int) = (j : Int) := IntWalk.i64_in _ (by omega)
       have hk5 : (0 : Int) ≤ (j : Int) := by omega
       have hk6 : (j : Int) < (l.length : Int) := by omega
       have hst := hid (fun (h : d.num ≤ q.num) => zad hh.out.1 HD.out (by subst hj; rw [za8 hq HX.out, if_pos h]) (by decide : (9 : Int) ≠ 0))
       have hgo := hid (fun (h : ¬ d.num ≤ q.num) => zah hh.out.1 HD.out (by subst hj; rw [za8 hq HX.out, if_neg h]))
       clear hj hq hc2 hkz
       by_cases ho : d.num ≤ q.num
       · have hs2 := hid (hst.out ho)
         go_wp2_with fail
         refine HC.out.mono ?_
         rintro e w1 ⟨rfl, hb1⟩
         have hb9 : Below wr.heap.size wr w1 := bel
         have r1 : RowAt w1 wr.heap.size 147 #[.int .i64 d.num, .slice ya yn yc] := (RowAt.new wr _ _).run hb1
         have z0 := (zaa r1).1 0
         simp at z0
         have HB1 := hid hb9
         clear e0 e1
         have p0 : w1.cell? ⟨g, off + j * 2, none⟩ = some (.int .i64 q.num) := HP.out w1 hb9
         have hbw := hid (hh.out.2.trans (hb9.mono hbs))
         clear hb1 hb9 r1
         go_wp2
         go_quiet (fail)
         go_wp2
         go_ret
         exact ⟨zab hs2.out.symm, by have := hbw.out; exact bel⟩
       have hg2 := hid (hgo.out ho)
       go_wp2_with fail
       refine HC.out.mono ?_
       rintro e w1 ⟨rfl, hb1⟩
       have hb9 : Below wr.heap.size wr w1 := bel
       have r1 : RowAt w1 wr.heap.size 147 #[.int .i64 d.num, .slice ya yn yc] := (RowAt.new wr _ _).run hb1
       have z0 := (zaa r1).1 0
       simp at z0
       have HB1 := hid hb9
       clear e0 e1
       have p0 : w1.cell? ⟨g, off + j * 2, none⟩ = some (.int .i64 q.num) := HP.out w1 hb9
       have hbw := hid (hh.out.2.trans (hb9.mono hbs))
       clear hb1 hb9 r1
       go_wp2
       go_quiet (fail)
       go_wp2
       go_roundw
       case rel => exact ⟨k + 1, by go_num, hid ⟨hg2.out, by have := hbw.out; exact bel⟩⟩
       case measure => simp [intOf]; omega
     have hx1 : (x == 0) = false := by simpa using hx0
     have hst := hid (zad hh.out.1 HD.out (zcf HX.out hx0) hx0)
     go_wp2_with fail
     refine HC.out.mono ?_
     rintro e w1 ⟨rfl, hb1⟩
     have hb9 : Below wr.heap.size wr w1 := bel
     go_wp2
     go_ret
     exact ⟨zab hst.out.symm, hh.out.2.trans (hb9.mono hbs)⟩
   obtain rfl : k = l.length := by omega
   have hen := hid (zan hh.out.1)
   go_wp2
   go_ret
   exact ⟨zab hen.out.symm, hh.out.2⟩
def hue1E (d : HueD) : Int := if d.ch < 0 ∨ 999 < d.ch ∨ d.at_ < 0 ∨ 15 ≤ d.at_ ∨ levB d.lev = false then 2 else 0
def par0E (ch at_ : Int) : Int := if ch < 0 ∨ 999 < ch ∨ at_ < 0 ∨ 15 ≤ at_ then 2 else 0
theorem zf9 {p : List HueD} {d : HueD} (h : hue1E d = 2) : hueE p d = 2 := by
 unfold hue1E at h
 split at h
 · rename_i h1; rw [hueE, if_pos h1]
 cases h
theorem zg3 {d : HueD} (h : hue1E d = 0) : hueE [] d = 0 := by
 unfold hue1E at h
 split at h
 · cases h
 rename_i h1; rw [hueE, if_neg h1]; rfl
theorem ze3 {l : List HueD} {j : Nat} {q d : HueD} (hq : l[j]? = some q) (h : hue1E d = 0) : hueE (l.take (j + 1)) d = if befP q.ch q.at_ d.ch d.at_ then 0 else 9 := by
 unfold hue1E at h
 split at h
 · cases h
 rename_i h1; rw [hueE, if_neg h1, zbs hq]
theorem zgn (d : HueD) : hue1E d = 0 ∨ hue1E d = 2 := by unfold hue1E; split <;> simp
theorem zhh {p : List HueD} {d : HueD} (h : hueE p d = 0) : hue1E d = 0 := by
 rcases zgn d with h1 | h1
 · exact h1
 rw [zf9 h1] at h; cases h
theorem zqp {d : HueD} (h : hue1E d = 2) : d.ch < 0 ∨ 999 < d.ch ∨ d.at_ < 0 ∨ 15 ≤ d.at_ ∨ lev16 d.lev = false := by
 unfold hue1E at h
 split at h
 · rename_i h1; exact h1
 cases h
theorem zg7 {d : HueD} (h : hue1E d = 0) : ¬ d.ch < 0 ∧ ¬ 999 < d.ch ∧ ¬ d.at_ < 0 ∧ ¬ 15 ≤ d.at_ ∧ lev16 d.lev = true := by
 unfold hue1E at h
 split at h
 · cases h
 rename_i h1
 refine ⟨by omega, by omega, by omega, by omega, ?_⟩
 cases hl : lev16 d.lev with
 | true => rfl
 | false => exact absurd (Or.inr (Or.inr (Or.inr (Or.inr hl)))) h1
theorem zln {d : HueD} (h : hue1E d = 0) : 0 ≤ d.ch ∧ d.ch ≤ 999 ∧ 0 ≤ d.at_ ∧ d.at_ ≤ 14 := by
 unfold hue1E at h
 split at h
 · cases h
 omega
theorem zfb (d : HueD) (w : World) :
  Calls Tryz.prog 312 #[.agg #[.int .i64 d.ch, .int .i64 d.at_, .int .i64 d.lev]] w fun e w' => e = .returned (.agg #[.int .i64 d.ch, .int .i64 d.at_]) ∧ Below w.heap.size w w' := by
 go_enter Tryz.func312, Tryz.ntmps312
 go_wp2
 refine bodyPost_ret (v := .agg #[.int .i64 d.ch, .int .i64 d.at_]) ?_ rfl ⟨rfl, bel⟩
 simp [results, Tryz.results312, go_sem]
theorem zm7 (ch at_ : Int) (w : World) :
  Calls Tryz.prog 311 #[.agg #[.int .i64 ch, .int .i64 at_], .int .i64 0] w fun e w' => e = .returned (.int .i64 (par0E ch at_)) ∧ Below w.heap.size w w' := by
 go_enter Tryz.func311, Tryz.ntmps311
 go_wp2
 all_goals go_ret
 all_goals exact ⟨zab (by grind [par0E]), bel⟩
theorem zgp (d : HueD) (w : World) :
   Calls Tryz.prog 309 #[.agg #[.int .i64 d.ch, .int .i64 d.at_, .int .i64 d.lev]] w fun e w' => e = .returned (.int .i64 (hue1E d)) ∧ Below w.heap.size w w' := by
 have s0 := RowAt.new w 179 #[.int .i64 d.ch, .int .i64 d.at_, .int .i64 d.lev]
 have H0 := hid s0
 have C := fun W => zh5 d.lev W
 clear s0
 by_cases hl : levB d.lev = true
 · rw [show lev16 d.lev = true from hl] at C
   have H1 := hid C
   have H2 := hid (fun W => zm7 d.ch d.at_ W)
   have hp : hue1E d = par0E d.ch d.at_ := by simp only [hue1E, par0E, hl]; simp
   rw [hp]
   clear C hl hp
   go_enter Tryz.func309, Tryz.ntmps309
   go_wp2_with fail
   refine (H1.out _).mono ?_
   rintro e w1 ⟨rfl, rfl⟩
   go_wp2_with fail
   refine (zfb d _).mono ?_
   rintro e w1 ⟨rfl, hb1⟩
   go_wp2_with fail
   refine (H2.out _).mono ?_
   rintro e w2 ⟨rfl, hb2⟩
   go_wp2
   go_ret
   exact ⟨rfl, bel⟩
 have hl2 : levB d.lev = false := by simpa using hl
 rw [show lev16 d.lev = false from hl2] at C
 have H1 := hid C
 have hp : hue1E d = 2 := by simp [hue1E, hl2]
 rw [hp]
 clear C hl hp hl2
 go_enter Tryz.func309, Tryz.ntmps309
 go_wp2_with fail
 refine (H1.out _).mono ?_
 rintro e w1 ⟨rfl, rfl⟩
 go_wp2
 go_ret
 exact ⟨rfl, bel⟩
theorem zm1 (c1 a1 c2 a2 : Int) (w : World) (h1 : 0 ≤ c1 ∧ c1 ≤ 999 ∧ 0 ≤ a1 ∧ a1 ≤ 14) (h2 : 0 ≤ c2 ∧ c2 ≤ 999 ∧ 0 ≤ a2 ∧ a2 ≤ 14) :
   Calls Tryz.prog 315 #[.agg #[.int .i64 c1, .int .i64 a1], .agg #[.int .i64 c2, .int .i64 a2]] w fun e w' => (∃ n, e = .returned (.int .i64 n) ∧ Hid (decide (0 ≤ n) = !befP c1 a1 c2 a2)) ∧ Below w.heap.size w w' := by
 obtain ⟨p1, p2, p3, p4⟩ := h1
 obtain ⟨q1, q2, q3, q4⟩ := h2
 by_cases he : c1 = c2
 · subst he
   have e1 : (c1 != c1) = false := by simp
   go_enter Tryz.func315, Tryz.ntmps315
   go_wp2
   go_ret
   exact ⟨⟨_, rfl, hid (by rw [Bool.eq_iff_iff]; simp [befP] <;> omega)⟩, bel⟩
 have e1 : (c1 != c2) = true := by simpa using he
 go_enter Tryz.func315, Tryz.ntmps315
 go_wp2
 go_ret
 exact ⟨⟨_, rfl, hid (by rw [Bool.eq_iff_iff]; simp [befP] <;> omega)⟩, bel⟩
theorem zwb (d q : HueD) (w : World) (h1 : hue1E d = 0) (h2 : hue1E q = 0) :
  Calls Tryz.prog 314 #[.agg #[.int .i64 d.ch, .int .i64 d.at_, .int .i64 d.lev], .agg #[.int .i64 q.ch, .int .i64 q.at_, .int .i64 q.lev]] w fun e w' => (∃ n, e = .returned (.int .i64 n) ∧ Hid (decide (0 ≤ n) = !befP d.ch d.at_ q.ch q.at_)) ∧ Below w.heap.size w w' := by
 have H1 := hid (fun W => zfb d W)
 have H2 := hid (fun W => zfb q W)
 have H3 := hid (fun W => zm1 d.ch d.at_ q.ch q.at_ W (zln h1) (zln h2))
 obtain ⟨W0, hW0⟩ : ∃ W, (w.alloc (.cells #[.int .i64 d.ch, .int .i64 d.at_, .int .i64 d.lev] 179)).alloc (.cells #[.int .i64 q.ch, .int .i64 q.at_, .int .i64 q.lev] 179) = W := ⟨_, rfl⟩
 have s0 : RowAt W0 w.heap.size 179 #[.int .i64 d.ch, .int .i64 d.at_, .int .i64 d.lev] := by rw [← hW0]; exact RowAt.alloc (RowAt.new _ _ _) _
 have s1 : RowAt W0 (w.heap.size + 1) 179 #[.int .i64 q.ch, .int .i64 q.at_, .int .i64 q.lev] := by rw [← hW0]; exact RowAt.mk (by simp) rfl
 have b0 : Below w.heap.size w W0 := by rw [← hW0]; exact bel
 have hs0 : W0.heap.size = w.heap.size + 2 := by rw [← hW0]; simp
 have HK := hid (fun (W : World) (hb : Below W0.heap.size W0 W) => And.intro ((zaa (s0.run hb)).1 0) (And.intro ((zaa (s0.run hb)).1 1) (And.intro ((zaa (s0.run hb)).1 2) (And.intro ((zaa (s1.run hb)).1 0) (And.intro ((zaa (s1.run hb)).1 1) ((zaa (s1.run hb)).1 2))))))
 have HB := hid b0
 obtain ⟨x1, x2, x3, x4, x5, x6⟩ := zaa s0
 obtain ⟨y1, y2, y3, y4, y5, y6⟩ := zaa s1
 clear h1 h2 s0 s1 b0
 go_enter Tryz.func314, Tryz.ntmps314
 go_wp2
 clear x1 y1
 go_region_held3 (fun w' => w'.cell? ⟨w.heap.size, 0, none⟩ = some (.int .i64 d.ch) ∧ w'.cell? ⟨w.heap.size, 1, none⟩ = some (.int .i64 d.at_) ∧ w'.cell? ⟨w.heap.size, 2, none⟩ = some (.int .i64 d.lev) ∧ w'.cell? ⟨w.heap.size + 1, 0, none⟩ = some (.int .i64 q.ch) ∧ w'.cell? ⟨w.heap.size + 1, 1, none⟩ = some (.int .i64 q.at_) ∧ w'.cell? ⟨w.heap.size + 1, 2, none⟩ = some (.int .i64 q.lev)) (first | exact HK.out _ bel | go_keep) (first
  | (go_at_call 312; with_reducible refine (H1.out _).mono ?_; rintro e w1 ⟨rfl, hb1⟩)
  | (go_at_call 312; with_reducible refine (H2.out _).mono ?_; rintro e w2 ⟨rfl, hb2⟩)
  | (go_at_call 315; refine (H3.out _).mono ?_; rintro e w3 ⟨⟨n, rfl, hn⟩, hb3⟩))
 all_goals
  have hq : Below W0.heap.size W0 w3 := bel
  go_wp2
  go_ret
  exact ⟨⟨n, rfl, hn⟩, HB.out.trans (hq.mono HB.out.size)⟩
theorem zuq (v : Value) (l : List HueD) (w : World) (hv : ListAt 3 hueA w v l) :
   Calls Tryz.prog 213 #[v] w fun e w' => e = .returned (.int .i64 (huesE l)) ∧ Below w.heap.size w w' := by
 obtain ⟨a, cap, rfl⟩ := hv.shape
 have hml := hv.few
 by_cases h4 : 256 < l.length
 · have h5 : (256 : Int) < (l.length : Int) := by omega
   rw [huesE, if_pos h4]
   clear hv
   go_enter Tryz.func213, Tryz.ntmps213
   go_wp2
   go_ret
   exact ⟨rfl, bel⟩
 have h5 : ¬ (256 : Int) < (l.length : Int) := by omega
 rw [huesE, if_neg h4]
 have HV := hid hv
 clear hv h4
 go_enter Tryz.func213, Tryz.ntmps213
 go_wp2
 go_loopw [3, 4] (fun i _ wr => ∃ k : Nat, i = .int .i64 k ∧ Hid (LoopB hueE l k ∧ Below w.heap.size w wr)) (fun i _ _ => l.length - (intOf i).toNat)
 case atStart => exact ⟨0, rfl, hid ⟨zam _ _, Below.refl _ _⟩⟩
 case round =>
   obtain ⟨k, rfl, hh⟩ := hrel
   have hk := hh.out.1.2.1
   have hbs := hh.out.2.size
   by_cases hlt : k < l.length
   · have hlt3 : (k : Int) < (l.length : Int) := by omega
     obtain ⟨d, hd⟩ : ∃ d, l[k]? = some d := ⟨_, List.getElem?_eq_getElem hlt⟩
     obtain ⟨g, off, cap', he, hg, hc⟩ := HV.out.at_ (by decide) hd
     cases he
     have e0 : wr.cell? ⟨g, off + k * 3, none⟩ = some (.int .i64 d.ch) := hc wr hh.out.2 0 (by decide)
     have e1 : wr.cell? ⟨g, off + k * 3 + 1, none⟩ = some (.int .i64 d.at_) := hc wr hh.out.2 1 (by decide)
     have e2 : wr.cell? ⟨g, off + k * 3 + 2, none⟩ = some (.int .i64 d.lev) := hc wr hh.out.2 2 (by decide)
     have hgr : g < wr.heap.size := by omega
     have hgn : ¬ g = wr.heap.size := by omega
     have hal : Below wr.heap.size wr (wr.alloc (.cells #[.int .i64 d.ch, .int .i64 d.at_, .int .i64 d.lev] 179)) := bel
     have r0 : RowAt (wr.alloc (.cells #[.int .i64 d.ch, .int .i64 d.at_, .int .i64 d.lev] 179)) wr.heap.size 179 #[.int .i64 d.ch, .int .i64 d.at_, .int .i64 d.lev] := RowAt.new _ _ _
     have HA := hid (And.intro hal r0)
     have HD := hid hd
     clear hd hc hk hal r0
     rcases zgn d with hx | hx
     · by_cases hkz : k = 0
       · have hgo := hid (zah hh.out.1 HD.out (by subst hkz; exact zg3 hx))
         have hkz2 : ¬ (0 : Int) < (k : Int) := by omega
         have hkz3 : decide (0 < k) = false := by simp; omega
         have hkz4 : decide ((0 : Int) < (k : Int)) = false := by simp; omega
         have hkz5 : ¬ 0 < k := by omega
         clear hkz
         have hx5 := zg7 hx
         obtain ⟨a1, a2, a3, a4, a5⟩ := hx5
         have C := fun W => zb7 d.lev W
         rw [a5] at C
         have HC := hid C
         clear C hx a5
         go_wp2_with fail
         refine (HC.out _).mono ?_
         rintro e w1 ⟨rfl, rfl⟩
         obtain ⟨hb9, r1⟩ := HA.out
         generalize wr.alloc (.cells #[.int .i64 d.ch, .int .i64 d.at_, .int .i64 d.lev] 179) = w1 at hb9 r1 ⊢
         have z0 := (zaa r1).1 0
         have z1 := (zaa r1).1 1
         have z2 := (zaa r1).1 2
         simp at z0 z1 z2
         have hbw := hid (hh.out.2.trans (hb9.mono hbs))
         go_wp2
         go_quiet (fail)
         go_wp2
         go_roundw
         case rel => exact ⟨k + 1, by go_num, hid ⟨hgo.out, by have := hbw.out; exact bel⟩⟩
         case measure => simp [intOf]; omega
       obtain ⟨j, hj⟩ : ∃ j, k = j + 1 := ⟨k - 1, by omega⟩
       obtain ⟨q, hq⟩ : ∃ q, l[j]? = some q := ⟨_, List.getElem?_eq_getElem (by omega)⟩
       obtain ⟨g2, off2, cap2, he2, -, hc2⟩ := HV.out.at_ (by decide) hq
       cases he2
       have hq1 : hue1E q = 0 := zhh ((zb2 hq).symm.trans (hh.out.1.2.2 j (by omega)))
       have HP := hid (fun (W : World) (hb : Below wr.heap.size wr W) => hc2 W (hh.out.2.trans (hb.mono hbs)))
       have hkz2 : (0 : Int) < (k : Int) := by omega
       have hkz5 : 0 < k := by omega
       have hk1 : (k : Int) - 1 = (j : Int) := by omega
       have hk2 : IntKind.i64.wrap ((k : Int) - 1) = (j : Int) := by rw [hk1]; exact IntWalk.i64_in _ (by omega)
       have hk3 : IntKind.i64.wrap (j : Int) = (j : Int) := IntWalk.i64_in _ (by omega)
       have hk5 : (0 : Int) ≤ (j : Int) := by omega
       have hk6 : (j : Int) < (l.length : Int) := by omega
       obtain ⟨t, ht⟩ : ∃ t, befP q.ch q.at_ d.ch d.at_ = t := ⟨_, rfl⟩
       have H3 := (fun W => zfl q.ch q.at_ d.ch d.at_ W)
       rw [ht] at H3
       have H3 := hid H3
       have hst := hid (fun (h : t = false) => zad hh.out.1 HD.out (by subst hj; rw [ze3 hq hx, ht, h]; rfl) (by decide : (9 : Int) ≠ 0))
       have hgo := hid (fun (h : t = true) => zah hh.out.1 HD.out (by subst hj; rw [ze3 hq hx, ht, h]; rfl))
       have HT := hid ht
       clear hj hq hc2 hkz hq1 ht
       have hx5 := zg7 hx
       obtain ⟨a1, a2, a3, a4, a5⟩ := hx5
       have C := fun W => zb7 d.lev W
       rw [a5] at C
       have HC := hid C
       clear C hx a5
       go_wp2_with fail
       refine (HC.out _).mono ?_
       rintro e w1 ⟨rfl, rfl⟩
       obtain ⟨hb9, r1⟩ := HA.out
       generalize wr.alloc (.cells #[.int .i64 d.ch, .int .i64 d.at_, .int .i64 d.lev] 179) = w1 at hb9 r1 ⊢
       have z0 := (zaa r1).1 0
       have z1 := (zaa r1).1 1
       have z2 := (zaa r1).1 2
       simp at z0 z1 z2
       have hbw := hid (hh.out.2.trans (hb9.mono hbs))
       have f0 : w1.cell? ⟨g, off + j * 3, none⟩ = some (.int .i64 q.ch) := HP.out w1 hb9 0 (by decide)
       have f1 : w1.cell? ⟨g, off + j * 3 + 1, none⟩ = some (.int .i64 q.at_) := HP.out w1 hb9 1 (by decide)
       have HW := hid hb9
       have hb99 := hb9
       have HK := hid (fun (W : World) (hb : Below w1.heap.size w1 W) => And.intro ((zaa (r1.run hb)).1 0) (And.intro ((zaa (r1.run hb)).1 1) (And.intro (HP.out W (zag hb99 hb99.size hb) 0 (by decide)) (HP.out W (zag hb99 hb99.size hb) 1 (by decide)))))
       clear hbw hb9 r1
       clear e0 e1 e2
       go_wp2
       go_region_held3 (fun w' => w'.cell? ⟨wr.heap.size, 0, none⟩ = some (.int .i64 d.ch) ∧ w'.cell? ⟨wr.heap.size, 1, none⟩ = some (.int .i64 d.at_) ∧ w'.cell? ⟨g, off + j * 3, none⟩ = some (.int .i64 q.ch) ∧ w'.cell? ⟨g, off + j * 3 + 1, none⟩ = some (.int .i64 q.at_)) (first | exact HK.out _ bel | go_keep) ((go_at_call 259; refine (H3.out _).mono ?_; rintro e w4 ⟨rfl, hb4⟩))
       all_goals
         have hb7 : Below wr.heap.size wr w4 := zag HW.out HW.out.size bel
         have hbw := hid (hh.out.2.trans (hb7.mono hbs))
         clear hb7 hb4
         cases t with
         | true =>
           have hg2 := hid (hgo.out rfl)
           go_wp2
           go_roundw
           case rel => exact ⟨k + 1, by go_num, hid ⟨hg2.out, by have := hbw.out; exact bel⟩⟩
           case measure => simp [intOf]; omega
         | false =>
           have hs2 := hid (hst.out rfl)
           go_wp2
           go_ret
           exact ⟨zab hs2.out.symm, by have := hbw.out; exact bel⟩
     have hst := hid (zad hh.out.1 HD.out (zf9 hx) (by decide))
     have hx5 := zqp hx
     clear hx
     by_cases a1 : d.ch < 0
     · go_wp2
       go_ret
       exact ⟨zab hst.out.symm, by have := hh.out.2; exact bel⟩
     by_cases a2 : 999 < d.ch
     · go_wp2
       go_ret
       exact ⟨zab hst.out.symm, by have := hh.out.2; exact bel⟩
     by_cases a3 : d.at_ < 0
     · go_wp2
       go_ret
       exact ⟨zab hst.out.symm, by have := hh.out.2; exact bel⟩
     by_cases a4 : 15 ≤ d.at_
     · go_wp2
       go_ret
       exact ⟨zab hst.out.symm, by have := hh.out.2; exact bel⟩
     have a5 : lev16 d.lev = false := by rcases hx5 with h | h | h | h | h <;> first | exact h | (exfalso; omega)
     have C := fun W => zb7 d.lev W
     rw [a5] at C
     have HC := hid C
     clear C hx5 a5
     go_wp2_with fail
     refine (HC.out _).mono ?_
     rintro e w1 ⟨rfl, rfl⟩
     go_wp2
     go_ret
     exact ⟨zab hst.out.symm, by have := hh.out.2; exact bel⟩
   obtain rfl : k = l.length := by omega
   have hen := hid (zan hh.out.1)
   go_wp2
   go_ret
   exact ⟨zab hen.out.symm, hh.out.2⟩
theorem zwj (v : Value) (l : List HueD) (w : World) (hv : ListAt 3 hueA w v l) :
   Calls Tryz.prog 313 #[v, .int .i64 256, .func (.func 309) #[] #[], .func (.func 314) #[] #[]] w fun e w' => e = .returned (.int .i64 (huesE l)) ∧ Below w.heap.size w w' := by
 obtain ⟨a, cap, rfl⟩ := hv.shape
 have hml := hv.few
 by_cases h4 : 256 < l.length
 · have h5 : (256 : Int) < (l.length : Int) := by omega
   rw [huesE, if_pos h4]
   clear hv
   go_enter Tryz.func313, Tryz.ntmps313
   go_wp2
   go_ret
   exact ⟨rfl, bel⟩
 have h5 : ¬ (256 : Int) < (l.length : Int) := by omega
 rw [huesE, if_neg h4]
 have HV := hid hv
 clear hv h4
 go_enter Tryz.func313, Tryz.ntmps313
 go_wp2
 go_loopw [9, 10, 18] (fun _ _ i wr => ∃ k : Nat, i = .int .i64 k ∧ Hid (LoopB hueE l k ∧ Below w.heap.size w wr)) (fun _ _ i _ => l.length - (intOf i).toNat)
 case atStart => exact ⟨0, rfl, hid ⟨zam _ _, Below.refl _ _⟩⟩
 case round =>
   obtain ⟨k, rfl, hh⟩ := hrel
   have hk := hh.out.1.2.1
   have hbs := hh.out.2.size
   by_cases hlt : k < l.length
   · have hlt3 : (k : Int) < (l.length : Int) := by omega
     obtain ⟨d, hd⟩ : ∃ d, l[k]? = some d := ⟨_, List.getElem?_eq_getElem hlt⟩
     obtain ⟨g, off, cap', he, hg, hc⟩ := HV.out.at_ (by decide) hd
     cases he
     have e0 : wr.cell? ⟨g, off + k * 3, none⟩ = some (.int .i64 d.ch) := hc wr hh.out.2 0 (by decide)
     have e1 : wr.cell? ⟨g, off + k * 3 + 1, none⟩ = some (.int .i64 d.at_) := hc wr hh.out.2 1 (by decide)
     have e2 : wr.cell? ⟨g, off + k * 3 + 2, none⟩ = some (.int .i64 d.lev) := hc wr hh.out.2 2 (by decide)
     have hgr : g < wr.heap.size := by omega
     have hgn : ¬ g = wr.heap.size := by omega
     have hal : Below wr.heap.size wr (wr.alloc (.cells #[.int .i64 d.ch, .int .i64 d.at_, .int .i64 d.lev] 179)) := bel
     have r0 : RowAt (wr.alloc (.cells #[.int .i64 d.ch, .int .i64 d.at_, .int .i64 d.lev] 179)) wr.heap.size 179 #[.int .i64 d.ch, .int .i64 d.at_, .int .i64 d.lev] := RowAt.new _ _ _
     have HA := hid (And.intro hal r0)
     have HD := hid hd
     clear hd hc hk hal r0
     rcases zgn d with hx | hx
     · by_cases hkz : k = 0
       · have hgo := hid (zah hh.out.1 HD.out (by subst hkz; exact zg3 hx))
         have hkz2 : ¬ (0 : Int) < (k : Int) := by omega
         have hkz3 : decide (0 < k) = false := by simp; omega
         have hkz4 : decide ((0 : Int) < (k : Int)) = false := by simp; omega
         have hkz5 : ¬ 0 < k := by omega
         clear hkz
         have C := fun W => zgp d W
         rw [hx] at C
         have HC := hid C
         clear C hx
         go_wp2_with fail
         refine (HC.out _).mono ?_
         rintro e w1 ⟨rfl, hb1⟩
         have hb9 : Below wr.heap.size wr w1 := bel
         have r1 := HA.out.2.run hb1
         have z0 := (zaa r1).1 0
         have z1 := (zaa r1).1 1
         have z2 := (zaa r1).1 2
         simp at z0 z1 z2
         have hbw := hid (hh.out.2.trans (hb9.mono hbs))
         go_wp2
         go_quiet (fail)
         go_wp2
         go_roundw
         case rel => exact ⟨k + 1, by go_num, hid ⟨hgo.out, by have := hbw.out; exact bel⟩⟩
         case measure => simp [intOf]; omega
       obtain ⟨j, hj⟩ : ∃ j, k = j + 1 := ⟨k - 1, by omega⟩
       obtain ⟨q, hq⟩ : ∃ q, l[j]? = some q := ⟨_, List.getElem?_eq_getElem (by omega)⟩
       obtain ⟨g2, off2, cap2, he2, -, hc2⟩ := HV.out.at_ (by decide) hq
       cases he2
       have hq1 : hue1E q = 0 := zhh ((zb2 hq).symm.trans (hh.out.1.2.2 j (by omega)))
       have HP := hid (fun (W : World) (hb : Below wr.heap.size wr W) => hc2 W (hh.out.2.trans (hb.mono hbs)))
       have hkz2 : (0 : Int) < (k : Int) := by omega
       have hkz5 : 0 < k := by omega
       have hk1 : (k : Int) - 1 = (j : Int) := by omega
       have hk2 : IntKind.i64.wrap ((k : Int) - 1) = (j : Int) := by rw [hk1]; exact IntWalk.i64_in _ (by omega)
       have hk3 : IntKind.i64.wrap (j : Int) = (j : Int) := IntWalk.i64_in _ (by omega)
       have hk5 : (0 : Int) ≤ (j : Int) := by omega
       have hk6 : (j : Int) < (l.length : Int) := by omega
       obtain ⟨t, ht⟩ : ∃ t, befP q.ch q.at_ d.ch d.at_ = t := ⟨_, rfl⟩
       have H3 := hid (fun W => zwb q d W hq1 hx)
       have hst := hid (fun (h : t = false) => zad hh.out.1 HD.out (by subst hj; rw [ze3 hq hx, ht, h]; rfl) (by decide : (9 : Int) ≠ 0))
       have hgo := hid (fun (h : t = true) => zah hh.out.1 HD.out (by subst hj; rw [ze3 hq hx, ht, h]; rfl))
       have HT := hid ht
       clear hj hq hc2 hkz hq1 ht
       have C := fun W => zgp d W
       rw [hx] at C
       have HC := hid C
       clear C hx
       go_wp2_with fail
       refine (HC.out _).mono ?_
       rintro e w1 ⟨rfl, hb1⟩
       have hb9 : Below wr.heap.size wr w1 := bel
       have r1 := HA.out.2.run hb1
       have z0 := (zaa r1).1 0
       have z1 := (zaa r1).1 1
       have z2 := (zaa r1).1 2
       simp at z0 z1 z2
       have hbw := hid (hh.out.2.trans (hb9.mono hbs))
       have f0 : w1.cell? ⟨g, off + j * 3, none⟩ = some (.int .i64 q.ch) := HP.out w1 hb9 0 (by decide)
       have f1 : w1.cell? ⟨g, off + j * 3 + 1, none⟩ = some (.int .i64 q.at_) := HP.out w1 hb9 1 (by decide)
       have f2 : w1.cell? ⟨g, off + j * 3 + 2, none⟩ = some (.int .i64 q.lev) := HP.out w1 hb9 2 (by decide)
       have HW := hid hb9
       have hb99 := hb9
       have HK := hid (fun (W : World) (hb : Below w1.heap.size w1 W) => And.intro ((zaa (r1.run hb)).1 0) (And.intro ((zaa (r1.run hb)).1 1) (And.intro ((zaa (r1.run hb)).1 2) (And.intro (HP.out W (zag hb99 hb99.size hb) 0 (by decide)) (And.intro (HP.out W (zag hb99 hb99.size hb) 1 (by decide)) (HP.out W (zag hb99 hb99.size hb) 2 (by decide)))))))
       clear hbw hb1 hb9 r1
       clear e0 e1 e2
       go_wp2
       go_region_held3 (fun w' => w'.cell? ⟨wr.heap.size, 0, none⟩ = some (.int .i64 d.ch) ∧ w'.cell? ⟨wr.heap.size, 1, none⟩ = some (.int .i64 d.at_) ∧ w'.cell? ⟨wr.heap.size, 2, none⟩ = some (.int .i64 d.lev) ∧ w'.cell? ⟨g, off + j * 3, none⟩ = some (.int .i64 q.ch) ∧ w'.cell? ⟨g, off + j * 3 + 1, none⟩ = some (.int .i64 q.at_) ∧ w'.cell? ⟨g, off + j * 3 + 2, none⟩ = some (.int .i64 q.lev)) (first | exact HK.out _ bel | go_keep) ((go_at_call 314; refine (H3.out _).mono ?_; rintro e w4 ⟨⟨n, rfl, hn⟩, hb4⟩))
       all_goals
         have hb7 : Below wr.heap.size wr w4 := zag HW.out HW.out.size bel
         have hbw := hid (hh.out.2.trans (hb7.mono hbs))
         clear hb7 hb4
         cases t with
         | true =>
           have hg2 := hid (hgo.out rfl)
           have hn2 : ¬ 0 ≤ n := by have := hn.out; rw [HT.out] at this; simpa using this
           have hn3 := hn2
           clear hn
           go_wp2
           go_roundw
           case rel => exact ⟨k + 1, by go_num, hid ⟨hg2.out, by have := hbw.out; exact bel⟩⟩
           case measure => simp [intOf]; omega
         | false =>
           have hs2 := hid (hst.out rfl)
           have hn2 : 0 ≤ n := by have := hn.out; rw [HT.out] at this; simpa using this
           clear hn
           go_wp2
           go_ret
           exact ⟨zab hs2.out.symm, by have := hbw.out; exact bel⟩
     have hst := hid (zad hh.out.1 HD.out (zf9 hx) (by decide))
     have C := fun W => zgp d W
     rw [hx] at C
     have HC := hid C
     clear C hx
     go_wp2_with fail
     refine (HC.out _).mono ?_
     rintro e w1 ⟨rfl, hb1⟩
     have hb9 : Below wr.heap.size wr w1 := bel
     have hb8 := hh.out.2.trans (hb9.mono hbs)
     clear hb1 hb9
     go_wp2
     go_ret
     exact ⟨zab hst.out.symm, by have := hh.out.2; exact bel⟩
   obtain rfl : k = l.length := by omega
   have hen := hid (zan hh.out.1)
   go_wp2
   go_ret
   exact ⟨zab hen.out.symm, hh.out.2⟩
theorem zp9 (v : Value) (l : List HueD) (w : World) (hv : ListAt 3 hueA w v l) :
  Calls Tryz.prog 270 #[v] w fun e w' => e = .returned (.int .i64 (huesE l)) ∧ Below w.heap.size w w' := by
 obtain ⟨a, cap, rfl⟩ := hv.shape
 have C := hid (zwj _ l w hv)
 clear hv
 go_enter Tryz.func270, Tryz.ntmps270
 go_wp2_with fail
 refine C.out.mono ?_
 rintro e w1 ⟨rfl, hb1⟩
 go_wp2
 go_ret
 exact ⟨rfl, hb1⟩
theorem zvu (v : Value) (l : List PalD) (w : World) (hv : RL 2 palA RPal w v l) :
   Calls Tryz.prog 191 #[v] w fun e w' => e = .returned (.int .i64 (palsE l)) ∧ Below w.heap.size w w' := by
 obtain ⟨a, cap, rfl⟩ := hv.shape
 have hml := hv.few
 by_cases h4 : 32 < l.length
 · have h5 : (32 : Int) < (l.length : Int) := by omega
   rw [palsE, if_pos h4]
   clear hv
   go_enter Tryz.func191, Tryz.ntmps191
   go_wp2
   go_ret
   exact ⟨rfl, bel⟩
 have h5 : ¬ (32 : Int) < (l.length : Int) := by omega
 rw [palsE, if_neg h4]
 have HV := hid hv
 clear hv h4
 go_enter Tryz.func191, Tryz.ntmps191
 go_wp2
 go_loopw [3, 4, 11] (fun _ _ i wr => ∃ k : Nat, i = .int .i64 k ∧ Hid (LoopB palE l k ∧ Below w.heap.size w wr)) (fun _ _ i _ => l.length - (intOf i).toNat)
 case atStart => exact ⟨0, rfl, hid ⟨zam _ _, Below.refl _ _⟩⟩
 case round =>
   obtain ⟨k, rfl, hh⟩ := hrel
   have hk := hh.out.1.2.1
   have hbs := hh.out.2.size
   by_cases hlt : k < l.length
   · have hlt3 : (k : Int) < (l.length : Int) := by omega
     obtain ⟨d, hd⟩ : ∃ d, l[k]? = some d := ⟨_, List.getElem?_eq_getElem hlt⟩
     obtain ⟨y, g, off, cap', he, hg, hc⟩ := HV.out.at_ (by decide) zbe hd
     cases he
     have HE := hid (fun (W : World) (hb : Below wr.heap.size wr W) => hc W (hh.out.2.trans (hb.mono hbs)))
     obtain ⟨ya, yn, yc, rfl⟩ := zlh (HE.out wr (Below.refl _ _)).2
     have e0 : wr.cell? ⟨g, off + k * 2, none⟩ = some (.int .i64 d.num) := (HE.out wr (Below.refl _ _)).1 0 (by decide)
     have e1 : wr.cell? ⟨g, off + k * 2 + 1, none⟩ = some (.slice ya yn yc) := (HE.out wr (Below.refl _ _)).1 1 (by decide)
     have hgr : g < wr.heap.size := by omega
     have hgn : ¬ g = wr.heap.size := by omega
     have HD := hid hd
     clear hd hc hk
     by_cases n1 : d.num < 1
     · have hst := hid (zad hh.out.1 HD.out (show palE _ d = 2 from by rw [palE, if_pos (.inl n1)]) (by decide))
       go_wp2
       go_ret
       exact ⟨zab hst.out.symm, by have := hh.out.2; exact bel⟩
     by_cases n2 : 1048576 < d.num
     · have hst := hid (zad hh.out.1 HD.out (show palE _ d = 2 from by rw [palE, if_pos (.inr n2)]) (by decide))
       go_wp2
       go_ret
       exact ⟨zab hst.out.symm, by have := hh.out.2; exact bel⟩
     obtain ⟨x, hx⟩ : ∃ x, huesE d.hues = x := ⟨_, rfl⟩
     have C := fun (W : World) (hb : Below wr.heap.size wr W) => zp9 _ d.hues W (HE.out W hb).2
     rw [hx] at C
     have HC := hid C
     have HX := hid hx
     clear hx C
     by_cases hkz : k = 0
     · have hpe := hid (show palE (l.take k) d = x from by subst hkz; rw [palE, if_neg (by omega)]; exact HX.out)
       have hkz2 : ¬ (0 : Int) < (k : Int) := by omega
       have hkz3 : decide (0 < k) = false := by simp; omega
       have hkz4 : decide ((0 : Int) < (k : Int)) = false := by simp; omega
       have hkz5 : ¬ 0 < k := by omega
       clear hkz
       by_cases hx0 : x = 0
       · subst hx0
         have hgo := hid (zah hh.out.1 HD.out hpe.out)
         go_wp2
         go_quiet (fail)
         go_wp2_with fail
         refine (HC.out _ bel).mono ?_
         rintro e w1 ⟨rfl, hb1⟩
         have hb9 : Below wr.heap.size wr w1 := bel
         have hbw := hid (hh.out.2.trans (hb9.mono hbs))
         clear hb1 hb9 e0 e1
         go_wp2
         go_roundw
         case rel => exact ⟨k + 1, by go_num, hid ⟨hgo.out, hbw.out⟩⟩
         case measure => simp [intOf]; omega
       have hx1 : (x == 0) = false := by simpa using hx0
       have hst := hid (zad hh.out.1 HD.out hpe.out hx0)
       go_wp2
       go_quiet (fail)
       go_wp2_with fail
       refine (HC.out _ bel).mono ?_
       rintro e w1 ⟨rfl, hb1⟩
       have hb9 : Below wr.heap.size wr w1 := bel
       have hbw := hid (hh.out.2.trans (hb9.mono hbs))
       clear hb1 hb9 e0 e1
       go_wp2
       go_ret
       exact ⟨zab hst.out.symm, hbw.out⟩
     obtain ⟨j, hj⟩ : ∃ j, k = j + 1 := ⟨k - 1, by omega⟩
     obtain ⟨q, hq⟩ : ∃ q, l[j]? = some q := ⟨_, List.getElem?_eq_getElem (by omega)⟩
     obtain ⟨y2, g2, off2, cap2, he2, -, hc2⟩ := HV.out.at_ (by decide) zbe hq
     cases he2
     have p0 : wr.cell? ⟨g, off + j * 2, none⟩ = some (.int .i64 q.num) := (hc2 wr hh.out.2).1 0 (by decide)
     have hkz2 : (0 : Int) < (k : Int) := by omega
     have hkz5 : 0 < k := by omega
     have hk1 : (k : Int) - 1 = (j : Int) := by omega
     have hk2 : IntKind.i64.wrap ((k : Int) - 1) = (j : Int) := by rw [hk1]; exact IntWalk.i64_in _ (by omega)
     have hk3 : IntKind.i64.wrap (j : Int) = (j : Int) := IntWalk.i64_in _ (by omega)
     have hk5 : (0 : Int) ≤ (j : Int) := by omega
     have hk6 : (j : Int) < (l.length : Int) := by omega
     have hpe := hid (show palE (l.take k) d = if d.num ≤ q.num then 9 else x from by subst hj; rw [palE, if_neg (by omega), zbs hq, HX.out])
     clear hj hq hc2 hkz
     by_cases ho : d.num ≤ q.num
     · have hst := hid (zad hh.out.1 HD.out (hpe.out.trans (if_pos ho)) (by decide))
       go_wp2
       go_quiet (fail)
       go_wp2
       go_ret
       exact ⟨zab hst.out.symm, by have := hh.out.2; exact bel⟩
     by_cases hx0 : x = 0
     · subst hx0
       have hgo := hid (zah hh.out.1 HD.out (hpe.out.trans (if_neg ho)))
       go_wp2
       go_quiet (fail)
       go_wp2_with fail
       refine (HC.out _ bel).mono ?_
       rintro e w1 ⟨rfl, hb1⟩
       have hb9 : Below wr.heap.size wr w1 := bel
       have hbw := hid (hh.out.2.trans (hb9.mono hbs))
       clear hb1 hb9 e0 e1
       go_wp2
       go_roundw
       case rel => exact ⟨k + 1, by go_num, hid ⟨hgo.out, hbw.out⟩⟩
       case measure => simp [intOf]; omega
     have hx1 : (x == 0) = false := by simpa using hx0
     have hst := hid (zad hh.out.1 HD.out (hpe.out.trans (if_neg ho)) hx0)
     go_wp2
     go_quiet (fail)
     go_wp2_with fail
     refine (HC.out _ bel).mono ?_
     rintro e w1 ⟨rfl, hb1⟩
     have hb9 : Below wr.heap.size wr w1 := bel
     have hbw := hid (hh.out.2.trans (hb9.mono hbs))
     clear hb1 hb9 e0 e1
     go_wp2
     go_ret
     exact ⟨zab hst.out.symm, hbw.out⟩
   obtain rfl : k = l.length := by omega
   have hen := hid (zan hh.out.1)
   go_wp2
   go_ret
   exact ⟨zab hen.out.symm, hh.out.2⟩
theorem ztk (v : Value) (l : List PalD) (w : World) (hv : RL 2 palA RPal w v l) :
   Calls Tryz.prog 108 #[v] w fun e w' => e = .returned (.int .i64 (palsE l)) ∧ Below w.heap.size w w' := by
 obtain ⟨a, cap, rfl⟩ := hv.shape
 have hml := hv.few
 by_cases h4 : 32 < l.length
 · have h5 : (32 : Int) < (l.length : Int) := by omega
   rw [palsE, if_pos h4]
   clear hv
   go_enter Tryz.func108, Tryz.ntmps108
   go_wp2
   go_ret
   exact ⟨rfl, bel⟩
 have h5 : ¬ (32 : Int) < (l.length : Int) := by omega
 rw [palsE, if_neg h4]
 have HV := hid hv
 clear hv h4
 go_enter Tryz.func108, Tryz.ntmps108
 go_wp2
 go_loopw [3] (fun i wr => ∃ k : Nat, i = .int .i64 k ∧ Hid (LoopB palE l k ∧ Below w.heap.size w wr)) (fun i _ => l.length - (intOf i).toNat)
 case atStart => exact ⟨0, rfl, hid ⟨zam _ _, Below.refl _ _⟩⟩
 case round =>
   obtain ⟨k, rfl, hh⟩ := hrel
   have hk := hh.out.1.2.1
   have hbs := hh.out.2.size
   by_cases hlt : k < l.length
   · have hlt3 : (k : Int) < (l.length : Int) := by omega
     obtain ⟨d, hd⟩ : ∃ d, l[k]? = some d := ⟨_, List.getElem?_eq_getElem hlt⟩
     obtain ⟨y, g, off, cap', he, hg, hc⟩ := HV.out.at_ (by decide) zbe hd
     cases he
     have HE := hid (fun (W : World) (hb : Below wr.heap.size wr W) => hc W (hh.out.2.trans (hb.mono hbs)))
     obtain ⟨ya, yn, yc, rfl⟩ := zlh (HE.out wr (Below.refl _ _)).2
     have e0 : wr.cell? ⟨g, off + k * 2, none⟩ = some (.int .i64 d.num) := (HE.out wr (Below.refl _ _)).1 0 (by decide)
     have e1 : wr.cell? ⟨g, off + k * 2 + 1, none⟩ = some (.slice ya yn yc) := (HE.out wr (Below.refl _ _)).1 1 (by decide)
     have hgr : g < wr.heap.size := by omega
     have hgn : ¬ g = wr.heap.size := by omega
     have HD := hid hd
     clear hd hc hk
     by_cases n1 : d.num < 1
     · have hst := hid (zad hh.out.1 HD.out (show palE _ d = 2 from by rw [palE, if_pos (.inl n1)]) (by decide))
       go_wp2
       go_ret
       exact ⟨zab hst.out.symm, by have := hh.out.2; exact bel⟩
     by_cases n2 : 1048576 < d.num
     · have hst := hid (zad hh.out.1 HD.out (show palE _ d = 2 from by rw [palE, if_pos (.inr n2)]) (by decide))
       go_wp2
       go_ret
       exact ⟨zab hst.out.symm, by have := hh.out.2; exact bel⟩
     obtain ⟨x, hx⟩ : ∃ x, huesE d.hues = x := ⟨_, rfl⟩
     have C := fun (W : World) (hb : Below wr.heap.size wr W) => zuq _ d.hues W (HE.out W hb).2
     rw [hx] at C
     have HC := hid C
     have HX := hid hx
     clear hx C
     by_cases hkz : k = 0
     · have hpe := hid (show palE (l.take k) d = x from by subst hkz; rw [palE, if_neg (by omega)]; exact HX.out)
       have hkz2 : ¬ (0 : Int) < (k : Int) := by omega
       have hkz3 : decide (0 < k) = false := by simp; omega
       have hkz4 : decide ((0 : Int) < (k : Int)) = false := by simp; omega
       have hkz5 : ¬ 0 < k := by omega
       clear hkz
       by_cases hx0 : x = 0
       · subst hx0
         have hgo := hid (zah hh.out.1 HD.out hpe.out)
         go_wp2
         go_quiet (fail)
         go_wp2_with fail
         refine (HC.out _ bel).mono ?_
         rintro e w1 ⟨rfl, hb1⟩
         have hb9 : Below wr.heap.size wr w1 := bel
         have hbw := hid (hh.out.2.trans (hb9.mono hbs))
         clear hb1 hb9 e0 e1
         go_wp2
         go_roundw
         case rel => exact ⟨k + 1, by go_num, hid ⟨hgo.out, hbw.out⟩⟩
         case measure => simp [intOf]; omega
       have hx1 : (x == 0) = false := by simpa using hx0
       have hst := hid (zad hh.out.1 HD.out hpe.out hx0)
       go_wp2
       go_quiet (fail)
       go_wp2_with fail
       refine (HC.out _ bel).mono ?_
       rintro e w1 ⟨rfl, hb1⟩
       have hb9 : Below wr.heap.size wr w1 := bel
       have hbw := hid (hh.out.2.trans (hb9.mono hbs))
       clear hb1 hb9 e0 e1
       go_wp2
       go_ret
       exact ⟨zab hst.out.symm, hbw.out⟩
     obtain ⟨j, hj⟩ : ∃ j, k = j + 1 := ⟨k - 1, by omega⟩
     obtain ⟨q, hq⟩ : ∃ q, l[j]? = some q := ⟨_, List.getElem?_eq_getElem (by omega)⟩
     obtain ⟨y2, g2, off2, cap2, he2, -, hc2⟩ := HV.out.at_ (by decide) zbe hq
     cases he2
     have p0 : wr.cell? ⟨g, off + j * 2, none⟩ = some (.int .i64 q.num) := (hc2 wr hh.out.2).1 0 (by decide)
     have hkz2 : (0 : Int) < (k : Int) := by omega
     have hkz5 : 0 < k := by omega
     have hk1 : (k : Int) - 1 = (j : Int) := by omega
     have hk2 : IntKind.i64.wrap ((k : Int) - 1) = (j : Int) := by rw [hk1]; exact IntWalk.i64_in _ (by omega)
     have hk3 : IntKind.i64.wrap (j : Int) = (j : Int) := IntWalk.i64_in _ (by omega)
     have hk5 : (0 : Int) ≤ (j : Int) := by omega
     have hk6 : (j : Int) < (l.length : Int) := by omega
     have hpe := hid (show palE (l.take k) d = if d.num ≤ q.num then 9 else x from by subst hj; rw [palE, if_neg (by omega), zbs hq, HX.out])
     clear hj hq hc2 hkz
     by_cases ho : d.num ≤ q.num
     · have hst := hid (zad hh.out.1 HD.out (hpe.out.trans (if_pos ho)) (by decide))
       go_wp2
       go_quiet (fail)
       go_wp2
       go_ret
       exact ⟨zab hst.out.symm, by have := hh.out.2; exact bel⟩
     by_cases hx0 : x = 0
     · subst hx0
       have hgo := hid (zah hh.out.1 HD.out (hpe.out.trans (if_neg ho)))
       go_wp2
       go_quiet (fail)
       go_wp2_with fail
       refine (HC.out _ bel).mono ?_
       rintro e w1 ⟨rfl, hb1⟩
       have hb9 : Below wr.heap.size wr w1 := bel
       have hbw := hid (hh.out.2.trans (hb9.mono hbs))
       clear hb1 hb9 e0 e1
       go_wp2
       go_roundw
       case rel => exact ⟨k + 1, by go_num, hid ⟨hgo.out, hbw.out⟩⟩
       case measure => simp [intOf]; omega
     have hx1 : (x == 0) = false := by simpa using hx0
     have hst := hid (zad hh.out.1 HD.out (hpe.out.trans (if_neg ho)) hx0)
     go_wp2
     go_quiet (fail)
     go_wp2_with fail
     refine (HC.out _ bel).mono ?_
     rintro e w1 ⟨rfl, hb1⟩
     have hb9 : Below wr.heap.size wr w1 := bel
     have hbw := hid (hh.out.2.trans (hb9.mono hbs))
     clear hb1 hb9 e0 e1
     go_wp2
     go_ret
     exact ⟨zab hst.out.symm, hbw.out⟩
   obtain rfl : k = l.length := by omega
   have hen := hid (zan hh.out.1)
   go_wp2
   go_ret
   exact ⟨zab hen.out.symm, hh.out.2⟩
end Go.Proofs.YtjeigphhepngmaaGreatDoor
