/- -/
import Derived.Test.YtjeigphhepngmaaGreatDoorJc
namespace Go.Proofs.YtjeigphhepngmaaGreatDoor
open Go.RowKit
open Go.Lib (hid)
set_option maxHeartbeats 8000000
set_option maxRecDepth 100000
theorem zde (n : Int) (w : World) : Calls Tryz.prog 321 #[.int .i64 n] w fun e w' => e = .returned (.bool (levB n)) ∧ w = w' := by
 by_cases h1 : 0 ≤ n
 · by_cases h2 : n ≤ 65535
   · have hr : levB n = true := by simp [levB, h1, h2]
     rw [hr]
     clear hr
     go_enter Tryz.func321, Tryz.ntmps321
     go_wp2
     go_ret
     exact ⟨rfl, rfl⟩
   have hr : levB n = false := by simp [levB, h2]
   rw [hr]
   clear hr
   go_enter Tryz.func321, Tryz.ntmps321
   go_wp2
   go_ret
   exact ⟨rfl, rfl⟩
 have hr : levB n = false := by simp [levB, h1]
 rw [hr]
 clear hr
 go_enter Tryz.func321, Tryz.ntmps321
 go_wp2
 go_ret
 exact ⟨rfl, rfl⟩
theorem zt0 (v : Value) (l : List Pt) (w : World) (hv : ListAt 2 ptA w v l) :
   Calls Tryz.prog 277 #[v] w fun e w' => e = .returned (.int .i64 (curveE l)) ∧ Below w.heap.size w w' := by
 obtain ⟨a, cap, rfl⟩ := hv.shape
 have hml := hv.few
 by_cases h2 : l.length < 2
 · have h3 : (l.length : Int) < 2 := by omega
   rw [curveE, if_pos h2]
   clear hv
   go_enter Tryz.func277, Tryz.ntmps277
   go_wp2
   go_ret
   exact ⟨rfl, bel⟩
 have h3 : ¬ (l.length : Int) < 2 := by omega
 by_cases h4 : 16 < l.length
 · have h5 : (16 : Int) < (l.length : Int) := by omega
   rw [curveE, if_neg h2, if_pos h4]
   clear hv
   go_enter Tryz.func277, Tryz.ntmps277
   go_wp2
   go_ret
   exact ⟨rfl, bel⟩
 have h5 : ¬ (16 : Int) < (l.length : Int) := by omega
 have hP : curveE l = if allB ptE l ≠ 0 then allB ptE l else if (l.head?.map (·.1)) ≠ some 0 ∨ (l.getLast?.map (·.1)) ≠ some 65535 then 14 else 0 := by rw [curveE, if_neg h2, if_neg h4]
 have HP := hid hP
 have HV := hid hv
 clear hP hv h2 h4
 go_enter Tryz.func277, Tryz.ntmps277
 go_wp2
 go_loopw [3] (fun i wr => ∃ k : Nat, i = .int .i64 k ∧ Hid (LoopB ptE l k ∧ Below w.heap.size w wr)) (fun i _ => l.length - (intOf i).toNat)
 case atStart => exact ⟨0, rfl, hid ⟨zam _ _, Below.refl _ _⟩⟩
 case round =>
   obtain ⟨k, rfl, hh⟩ := hrel
   have hk := hh.out.1.2.1
   have hbs := hh.out.2.size
   by_cases hlt : k < l.length
   · have hlt3 : (k : Int) < (l.length : Int) := by omega
     obtain ⟨d, hd⟩ : ∃ d, l[k]? = some d := ⟨_, List.getElem?_eq_getElem hlt⟩
     obtain ⟨g, off, cap', he, hg, hc⟩ := HV.out.at_ (by decide) hd
     cases he
     have HE := hid (fun (W : World) (hb : Below wr.heap.size wr W) => hc W (hh.out.2.trans (hb.mono hbs)))
     have e0 : wr.cell? ⟨g, off + k * 2, none⟩ = some (.int .i64 d.1) := HE.out wr (Below.refl _ _) 0 (by decide)
     have e1 : wr.cell? ⟨g, off + k * 2 + 1, none⟩ = some (.int .i64 d.2) := HE.out wr (Below.refl _ _) 1 (by decide)
     have hgr : g < wr.heap.size := by omega
     have C1 := fun W => zde d.1 W
     have C2 := fun W => zde d.2 W
     have HD := hid hd
     clear hd hc hk
     by_cases p1 : levB d.1 = true
     · rw [p1] at C1
       by_cases p2 : levB d.2 = true
       · rw [p2] at C2
         have H1 := hid C1
         have H2 := hid C2
         have hlv : (levB d.1 && levB d.2) = true := by rw [p1, p2]; rfl
         have HL := hid hlv
         clear C1 C2 p1 p2 hlv
         by_cases hkz : k = 0
         · have hgo := hid (zah hh.out.1 HD.out (by subst hkz; exact zi8 HL.out))
           have hkz2 : ¬ (0 : Int) < (k : Int) := by omega
           have hkz3 : decide (0 < k) = false := by simp; omega
           have hkz4 : decide ((0 : Int) < (k : Int)) = false := by simp; omega
           have hkz5 : ¬ 0 < k := by omega
           clear hkz
           go_wp2_with fail
           refine (H1.out _).mono ?_
           rintro e w1 ⟨rfl, rfl⟩
           go_wp2_with fail
           refine (H2.out _).mono ?_
           rintro e w1 ⟨rfl, rfl⟩
           go_wp2
           go_quiet (fail)
           go_wp2
           go_roundw
           case rel => exact ⟨k + 1, by go_num, hid ⟨hgo.out, by have := hh.out.2; exact bel⟩⟩
           case measure => simp [intOf]; omega
         obtain ⟨j, hj⟩ : ∃ j, k = j + 1 := ⟨k - 1, by omega⟩
         obtain ⟨q, hq⟩ : ∃ q, l[j]? = some q := ⟨_, List.getElem?_eq_getElem (by omega)⟩
         obtain ⟨g2, off2, cap2, he2, -, hc2⟩ := HV.out.at_ (by decide) hq
         cases he2
         have f0 : wr.cell? ⟨g, off + j * 2, none⟩ = some (.int .i64 q.1) := hc2 wr hh.out.2 0 (by decide)
         have hkz2 : (0 : Int) < (k : Int) := by omega
         have hkz5 : 0 < k := by omega
         have hk1 : (k : Int) - 1 = (j : Int) := by omega
         have hk2 : IntKind.i64.wrap ((k : Int) - 1) = (j : Int) := by rw [hk1]; exact IntWalk.i64_in _ (by omega)
         have hk3 : IntKind.i64.wrap (j : Int) = (j : Int) := IntWalk.i64_in _ (by omega)
         have hk5 : (0 : Int) ≤ (j : Int) := by omega
         have hk6 : (j : Int) < (l.length : Int) := by omega
         have hst := hid (fun (h : d.1 ≤ q.1) => zad hh.out.1 HD.out (by subst hj; rw [ze4 hq HL.out, if_pos h]) (by decide : (9 : Int) ≠ 0))
         have hgo := hid (fun (h : ¬ d.1 ≤ q.1) => zah hh.out.1 HD.out (by subst hj; rw [ze4 hq HL.out, if_neg h]))
         clear hj hq hc2 hkz
         by_cases ho : d.1 ≤ q.1
         · have hs2 := hid (hst.out ho)
           go_wp2_with fail
           refine (H1.out _).mono ?_
           rintro e w1 ⟨rfl, rfl⟩
           go_wp2_with fail
           refine (H2.out _).mono ?_
           rintro e w1 ⟨rfl, rfl⟩
           go_wp2
           go_quiet (fail)
           go_wp2
           go_ret
           exact ⟨zab (by rw [HP.out, if_pos (by rw [hs2.out]; decide), hs2.out]), by have := hh.out.2; exact bel⟩
         have hg2 := hid (hgo.out ho)
         go_wp2_with fail
         refine (H1.out _).mono ?_
         rintro e w1 ⟨rfl, rfl⟩
         go_wp2_with fail
         refine (H2.out _).mono ?_
         rintro e w1 ⟨rfl, rfl⟩
         go_wp2
         go_quiet (fail)
         go_wp2
         go_roundw
         case rel => exact ⟨k + 1, by go_num, hid ⟨hg2.out, by have := hh.out.2; exact bel⟩⟩
         case measure => simp [intOf]; omega
       have p3 : levB d.2 = false := by simpa using p2
       rw [p3] at C2
       have H1 := hid C1
       have H2 := hid C2
       have hst := hid (zad hh.out.1 HD.out (zeu (by rw [p3, Bool.and_false])) (by decide))
       clear C1 C2 p1 p2 p3
       go_wp2_with fail
       refine (H1.out _).mono ?_
       rintro e w1 ⟨rfl, rfl⟩
       go_wp2_with fail
       refine (H2.out _).mono ?_
       rintro e w1 ⟨rfl, rfl⟩
       go_wp2
       go_ret
       exact ⟨zab (by rw [HP.out, if_pos (by rw [hst.out]; decide), hst.out]), by have := hh.out.2; exact bel⟩
     have p3 : levB d.1 = false := by simpa using p1
     rw [p3] at C1
     have H1 := hid C1
     have hst := hid (zad hh.out.1 HD.out (zeu (by rw [p3]; rfl)) (by decide))
     clear C1 C2 p1 p3
     go_wp2_with fail
     refine (H1.out _).mono ?_
     rintro e w1 ⟨rfl, rfl⟩
     go_wp2
     go_ret
     exact ⟨zab (by rw [HP.out, if_pos (by rw [hst.out]; decide), hst.out]), by have := hh.out.2; exact bel⟩
   obtain rfl : k = l.length := by omega
   have hen := hid (zan hh.out.1)
   obtain ⟨d0, hd0⟩ : ∃ d, l[0]? = some d := ⟨_, List.getElem?_eq_getElem (by omega)⟩
   obtain ⟨dn, hdn⟩ : ∃ d, l[l.length - 1]? = some d := ⟨_, List.getElem?_eq_getElem (by omega)⟩
   obtain ⟨g, off, cap', he, hg, hc⟩ := HV.out.at_ (by decide) hd0
   cases he
   obtain ⟨g2, off2, cap2, he2, -, hc2⟩ := HV.out.at_ (by decide) hdn
   cases he2
   have e0 : wr.cell? ⟨g, off + 0 * 2, none⟩ = some (.int .i64 d0.1) := hc wr hh.out.2 0 (by decide)
   simp only [Nat.zero_mul, Nat.add_zero] at e0
   have hh1 : l.head?.map (·.1) = some d0.1 := by rw [List.head?_eq_getElem?, hd0]; rfl
   have hh2 : l.getLast?.map (·.1) = some dn.1 := by rw [List.getLast?_eq_getElem?, hdn]; rfl
   obtain ⟨n, hn⟩ : ∃ n, l.length - 1 = n := ⟨_, rfl⟩
   rw [hn] at hc2
   have en : wr.cell? ⟨g, off + n * 2, none⟩ = some (.int .i64 dn.1) := hc2 wr hh.out.2 0 (by decide)
   have hn1 : (l.length : Int) - 1 = (n : Int) := by omega
   have hn2 : IntKind.i64.wrap ((l.length : Int) - 1) = (n : Int) := by rw [hn1]; exact IntWalk.i64_in _ (by omega)
   have hn3 : IntKind.i64.wrap (n : Int) = (n : Int) := IntWalk.i64_in _ (by omega)
   have hn5 : (0 : Int) ≤ (n : Int) := by omega
   have hn6 : (n : Int) < (l.length : Int) := by omega
   have hn7 : (0 : Int) < (l.length : Int) := by omega
   have HF := hid (And.intro hh1 hh2)
   clear hh1 hh2 hc hc2 hd0 hdn hn
   by_cases q1 : d0.1 = 0
   · have q1' : (d0.1 == 0) = true := by simp [q1]
     by_cases q2 : dn.1 = 65535
     · have q2' : (dn.1 == 65535) = true := by simp [q2]
       go_wp2
       go_ret
       exact ⟨zab (by rw [HP.out, if_neg (by rw [hen.out]; decide), HF.out.1, HF.out.2, q1, q2]; rfl), hh.out.2⟩
     have q2' : (dn.1 == 65535) = false := by simp [q2]
     go_wp2
     go_ret
     exact ⟨zab (by rw [HP.out, if_neg (by rw [hen.out]; decide), HF.out.1, HF.out.2, if_pos (.inr (by simp [q2]))]), hh.out.2⟩
   have q1' : (d0.1 == 0) = false := by simp [q1]
   go_wp2
   go_ret
   exact ⟨zab (by rw [HP.out, if_neg (by rw [hen.out]; decide), HF.out.1, HF.out.2, if_pos (.inl (by simp [q1]))]), hh.out.2⟩
theorem znv (v : Value) (l : List (List Pt)) (w : World) (hv : RL 1 curveA RCurve w v l) :
   Calls Tryz.prog 298 #[v] w fun e w' => e = .returned (.int .i64 (curvesE l)) ∧ Below w.heap.size w w' := by
 obtain ⟨a, cap, rfl⟩ := hv.shape
 have hml := hv.few
 by_cases h4 : 16 < l.length
 · have h5 : (16 : Int) < (l.length : Int) := by omega
   rw [curvesE, if_pos h4]
   clear hv
   go_enter Tryz.func298, Tryz.ntmps298
   go_wp2
   go_ret
   exact ⟨rfl, bel⟩
 have h5 : ¬ (16 : Int) < (l.length : Int) := by omega
 rw [curvesE, if_neg h4]
 have HV := hid hv
 clear hv h4
 go_enter Tryz.func298, Tryz.ntmps298
 go_wp2
 go_loopw [4, 11] (fun _ i wr => ∃ k : Nat, i = .int .i64 k ∧ Hid (LoopB (fun _ c => curveE c) l k ∧ Below w.heap.size w wr)) (fun _ i _ => l.length - (intOf i).toNat)
 case atStart => exact ⟨0, rfl, hid ⟨zam _ _, Below.refl _ _⟩⟩
 case round =>
   obtain ⟨k, rfl, hh⟩ := hrel
   have hk := hh.out.1.2.1
   have hbs := hh.out.2.size
   by_cases hlt : k < l.length
   · have hlt3 : (k : Int) < (l.length : Int) := by omega
     obtain ⟨d, hd⟩ : ∃ d, l[k]? = some d := ⟨_, List.getElem?_eq_getElem hlt⟩
     obtain ⟨y, g, off, cap', he, hg, hc⟩ := HV.out.at_ (by decide) zaz hd
     cases he
     have e0 : wr.cell? ⟨g, off + k, none⟩ = some y := by have h9 := (hc wr hh.out.2).1 0 (by decide); rw [Nat.mul_one, Nat.add_zero] at h9; exact h9
     have hr : ListAt 2 ptA wr y d := (hc wr hh.out.2).2
     obtain ⟨ya, yc, rfl⟩ := hr.shape
     obtain ⟨x, hx⟩ : ∃ x, curveE d = x := ⟨_, rfl⟩
     have C := zky _ d wr hr
     rw [hx] at C
     have HC := hid C
     have HX := hid hx
     have HD := hid hd
     clear hd hc hk hx C hr
     by_cases hx0 : x = 0
     · subst hx0
       have hgo := hid (zah hh.out.1 HD.out HX.out)
       go_wp2_with fail
       refine HC.out.mono ?_
       rintro e w1 ⟨rfl, hb1⟩
       go_wp2
       go_roundw
       case rel => exact ⟨k + 1, by go_num, hid ⟨hgo.out, hh.out.2.trans (hb1.mono hbs)⟩⟩
       case measure => simp [intOf]; omega
     have hx1 : (x == 0) = false := by simpa using hx0
     have hst := hid (zad hh.out.1 HD.out HX.out hx0)
     go_wp2_with fail
     refine HC.out.mono ?_
     rintro e w1 ⟨rfl, hb1⟩
     go_wp2
     go_ret
     exact ⟨zab hst.out.symm, hh.out.2.trans (hb1.mono hbs)⟩
   obtain rfl : k = l.length := by omega
   have hen := hid (zan hh.out.1)
   go_wp2
   go_ret
   exact ⟨zab hen.out.symm, hh.out.2⟩
theorem zhw (v : Value) (l : List (List Pt)) (w : World) (hv : RL 1 curveA RCurve w v l) :
   Calls Tryz.prog 209 #[v] w fun e w' => e = .returned (.int .i64 (curvesE l)) ∧ Below w.heap.size w w' := by
 obtain ⟨a, cap, rfl⟩ := hv.shape
 have hml := hv.few
 by_cases h4 : 16 < l.length
 · have h5 : (16 : Int) < (l.length : Int) := by omega
   rw [curvesE, if_pos h4]
   clear hv
   go_enter Tryz.func209, Tryz.ntmps209
   go_wp2
   go_ret
   exact ⟨rfl, bel⟩
 have h5 : ¬ (16 : Int) < (l.length : Int) := by omega
 rw [curvesE, if_neg h4]
 have HV := hid hv
 clear hv h4
 go_enter Tryz.func209, Tryz.ntmps209
 go_wp2
 go_loopw [3] (fun i wr => ∃ k : Nat, i = .int .i64 k ∧ Hid (LoopB (fun _ c => curveE c) l k ∧ Below w.heap.size w wr)) (fun i _ => l.length - (intOf i).toNat)
 case atStart => exact ⟨0, rfl, hid ⟨zam _ _, Below.refl _ _⟩⟩
 case round =>
   obtain ⟨k, rfl, hh⟩ := hrel
   have hk := hh.out.1.2.1
   have hbs := hh.out.2.size
   by_cases hlt : k < l.length
   · have hlt3 : (k : Int) < (l.length : Int) := by omega
     obtain ⟨d, hd⟩ : ∃ d, l[k]? = some d := ⟨_, List.getElem?_eq_getElem hlt⟩
     obtain ⟨y, g, off, cap', he, hg, hc⟩ := HV.out.at_ (by decide) zaz hd
     cases he
     have e0 : wr.cell? ⟨g, off + k, none⟩ = some y := by have h9 := (hc wr hh.out.2).1 0 (by decide); rw [Nat.mul_one, Nat.add_zero] at h9; exact h9
     have hr : ListAt 2 ptA wr y d := (hc wr hh.out.2).2
     obtain ⟨ya, yc, rfl⟩ := hr.shape
     obtain ⟨x, hx⟩ : ∃ x, curveE d = x := ⟨_, rfl⟩
     have C := zt0 _ d wr hr
     rw [hx] at C
     have HC := hid C
     have HX := hid hx
     have HD := hid hd
     clear hd hc hk hx C hr
     by_cases hx0 : x = 0
     · subst hx0
       have hgo := hid (zah hh.out.1 HD.out HX.out)
       go_wp2_with fail
       refine HC.out.mono ?_
       rintro e w1 ⟨rfl, hb1⟩
       go_wp2
       go_roundw
       case rel => exact ⟨k + 1, by go_num, hid ⟨hgo.out, hh.out.2.trans (hb1.mono hbs)⟩⟩
       case measure => simp [intOf]; omega
     have hx1 : (x == 0) = false := by simpa using hx0
     have hst := hid (zad hh.out.1 HD.out HX.out hx0)
     go_wp2_with fail
     refine HC.out.mono ?_
     rintro e w1 ⟨rfl, hb1⟩
     go_wp2
     go_ret
     exact ⟨zab hst.out.symm, hh.out.2.trans (hb1.mono hbs)⟩
   obtain rfl : k = l.length := by omega
   have hen := hid (zan hh.out.1)
   go_wp2
   go_ret
   exact ⟨zab hen.out.symm, hh.out.2⟩
def higB (v : Int) : Bool := decide (-1000 ≤ v ∧ v ≤ 1000)
theorem zhu {p : List Pt} {d : Pt} (h : higB d.2 = false) : wvB p d = 2 := by rw [wvB, if_pos (by simpa [higB] using h)]
theorem zhd {d : Pt} (h : higB d.2 = true) : wvB [] d = 0 := by rw [wvB, if_neg (by simpa [higB] using h)]; rfl
theorem zdt {l : List Pt} {j : Nat} {q d : Pt} (hq : l[j]? = some q) (h : higB d.2 = true) : wvB (l.take (j + 1)) d = if d.1 ≤ q.1 then 9 else 0 := by rw [wvB, if_neg (by simpa [higB] using h), zbs hq]
theorem zpn (n : Int) (w : World) : Calls Tryz.prog 351 #[.int .i64 n] w fun e w' => e = .returned (.bool (higB n)) ∧ w = w' := by
 by_cases h1 : -1000 ≤ n
 · by_cases h2 : n ≤ 1000
   · have hr : higB n = true := by simp [higB, h1, h2]
     rw [hr]
     clear hr
     go_enter Tryz.func351, Tryz.ntmps351
     go_wp2
     go_ret
     exact ⟨rfl, rfl⟩
   have hr : higB n = false := by simp [higB, h2]
   rw [hr]
   clear hr
   go_enter Tryz.func351, Tryz.ntmps351
   go_wp2
   go_ret
   exact ⟨rfl, rfl⟩
 have hr : higB n = false := by simp [higB, h1]
 rw [hr]
 clear hr
 go_enter Tryz.func351, Tryz.ntmps351
 go_wp2
 go_ret
 exact ⟨rfl, rfl⟩
theorem ztg (n : Int) (w : World) : Calls Tryz.prog 327 #[.int .i64 n] w fun e w' => e = .returned (.bool (higB n)) ∧ w = w' := by
 by_cases h1 : -1000 ≤ n
 · by_cases h2 : n ≤ 1000
   · have hr : higB n = true := by simp [higB, h1, h2]
     rw [hr]
     clear hr
     go_enter Tryz.func327, Tryz.ntmps327
     go_wp2
     go_ret
     exact ⟨rfl, rfl⟩
   have hr : higB n = false := by simp [higB, h2]
   rw [hr]
   clear hr
   go_enter Tryz.func327, Tryz.ntmps327
   go_wp2
   go_ret
   exact ⟨rfl, rfl⟩
 have hr : higB n = false := by simp [higB, h1]
 rw [hr]
 clear hr
 go_enter Tryz.func327, Tryz.ntmps327
 go_wp2
 go_ret
 exact ⟨rfl, rfl⟩
theorem zpw (v : Value) (l : List Pt) (w : World) (hv : ListAt 2 ptA w v l) :
   Calls Tryz.prog 319 #[v] w fun e w' => e = .returned (.int .i64 (waveE l)) ∧ Below w.heap.size w w' := by
 obtain ⟨a, cap, rfl⟩ := hv.shape
 have hml := hv.few
 by_cases h2 : l.length < 2
 · have h3 : (l.length : Int) < 2 := by omega
   rw [waveE, if_pos (.inl h2)]
   clear hv
   go_enter Tryz.func319, Tryz.ntmps319
   go_wp2
   go_ret
   exact ⟨rfl, bel⟩
 have h3 : ¬ (l.length : Int) < 2 := by omega
 by_cases h4 : 16 < l.length
 · have h5 : (16 : Int) < (l.length : Int) := by omega
   rw [waveE, if_pos (.inr h4)]
   clear hv
   go_enter Tryz.func319, Tryz.ntmps319
   go_wp2
   go_ret
   exact ⟨rfl, bel⟩
 have h5 : ¬ (16 : Int) < (l.length : Int) := by omega
 have hP : waveE l = if (l.head?.map (·.1)) ≠ some 0 ∨ (l.getLast?.map (·.1)) ≠ some 1000 then 2 else if allB wvB l ≠ 0 then allB wvB l else if (l.head?.map (·.2)) ≠ (l.getLast?.map (·.2)) then 3 else 0 := by rw [waveE, if_neg (by omega)]
 obtain ⟨d0, hd0⟩ : ∃ d, l[0]? = some d := ⟨_, List.getElem?_eq_getElem (by omega)⟩
 obtain ⟨dn, hdn⟩ : ∃ d, l[l.length - 1]? = some d := ⟨_, List.getElem?_eq_getElem (by omega)⟩
 obtain ⟨g, off, cap', he, hg, hc⟩ := hv.at_ (by decide) hd0
 cases he
 obtain ⟨g2, off2, cap2, he2, -, hc2⟩ := hv.at_ (by decide) hdn
 cases he2
 rw [show l.head? = some d0 from by rw [List.head?_eq_getElem?, hd0], show l.getLast? = some dn from by rw [List.getLast?_eq_getElem?, hdn]] at hP
 simp only [Option.map_some] at hP
 obtain ⟨n, hn⟩ : ∃ n, l.length - 1 = n := ⟨_, rfl⟩
 rw [hn] at hc2
 have E0 := hid hc
 have EN := hid hc2
 have e0 : w.cell? ⟨g, off, none⟩ = some (.int .i64 d0.1) := by have h9 := E0.out w (Below.refl _ _) 0 (by decide); simpa [ptA] using h9
 have en : w.cell? ⟨g, off + n * 2, none⟩ = some (.int .i64 dn.1) := EN.out w (Below.refl _ _) 0 (by decide)
 have hn1 : (l.length : Int) - 1 = (n : Int) := by omega
 have hn2 : IntKind.i64.wrap ((l.length : Int) - 1) = (n : Int) := by rw [hn1]; exact IntWalk.i64_in _ (by omega)
 have hn3 : IntKind.i64.wrap (n : Int) = (n : Int) := IntWalk.i64_in _ (by omega)
 have hn5 : (0 : Int) ≤ (n : Int) := by omega
 have hn6 : (n : Int) < (l.length : Int) := by omega
 have hn7 : (0 : Int) < (l.length : Int) := by omega
 have HP := hid hP
 have HV := hid hv
 clear hP hv h2 h4 hc hc2 hd0 hdn hn
 by_cases q1 : d0.1 = 0
 · have q1' : (d0.1 == 0) = true := by simp [q1]
   by_cases q2 : dn.1 = 1000
   · have q2' : (dn.1 == 1000) = true := by simp [q2]
     have HP2 := hid (show waveE l = if allB wvB l ≠ 0 then allB wvB l else if d0.2 ≠ dn.2 then 3 else 0 from by rw [HP.out, if_neg (by rw [q1, q2]; simp)]; simp)
     go_enter Tryz.func319, Tryz.ntmps319
     go_wp2
     clear e0 en
     go_loopw [4, 5, 32] (fun _ _ i wr => ∃ k : Nat, i = .int .i64 k ∧ Hid (LoopB wvB l k ∧ Below w.heap.size w wr)) (fun _ _ i _ => l.length - (intOf i).toNat)
     case atStart => exact ⟨0, rfl, hid ⟨zam _ _, Below.refl _ _⟩⟩
     case round =>
      obtain ⟨k, rfl, hh⟩ := hrel
      have hk := hh.out.1.2.1
      have hbs := hh.out.2.size
      by_cases hlt : k < l.length
      · have hlt3 : (k : Int) < (l.length : Int) := by omega
        obtain ⟨d, hd⟩ : ∃ d, l[k]? = some d := ⟨_, List.getElem?_eq_getElem hlt⟩
        obtain ⟨g2, off2, cap2, he, -, hc⟩ := HV.out.at_ (by decide) hd
        cases he
        have e0 : wr.cell? ⟨g, off + k * 2, none⟩ = some (.int .i64 d.1) := hc wr hh.out.2 0 (by decide)
        have e1 : wr.cell? ⟨g, off + k * 2 + 1, none⟩ = some (.int .i64 d.2) := hc wr hh.out.2 1 (by decide)
        have hgr : g < wr.heap.size := by omega
        have C2 := fun W => zpn d.2 W
        have HD := hid hd
        clear hd hc hk
        by_cases p2 : higB d.2 = true
        · rw [p2] at C2
          have H2 := hid C2
          have HL := hid p2
          clear C2 p2
          by_cases hkz : k = 0
          · have hgo := hid (zah hh.out.1 HD.out (by subst hkz; exact zhd HL.out))
            have hkz2 : ¬ (0 : Int) < (k : Int) := by omega
            have hkz3 : decide (0 < k) = false := by simp; omega
            have hkz4 : decide ((0 : Int) < (k : Int)) = false := by simp; omega
            have hkz5 : ¬ 0 < k := by omega
            clear hkz
            go_wp2_with fail
            refine (H2.out _).mono ?_
            rintro e w1 ⟨rfl, rfl⟩
            go_wp2
            go_quiet (fail)
            go_wp2
            go_roundw
            case rel => exact ⟨k + 1, by go_num, hid ⟨hgo.out, by have := hh.out.2; exact bel⟩⟩
            case measure => simp [intOf]; omega
          obtain ⟨j, hj⟩ : ∃ j, k = j + 1 := ⟨k - 1, by omega⟩
          obtain ⟨q, hq⟩ : ∃ q, l[j]? = some q := ⟨_, List.getElem?_eq_getElem (by omega)⟩
          obtain ⟨g3, off3, cap3, he3, -, hc3⟩ := HV.out.at_ (by decide) hq
          cases he3
          have f0 : wr.cell? ⟨g, off + j * 2, none⟩ = some (.int .i64 q.1) := hc3 wr hh.out.2 0 (by decide)
          have hkz2 : (0 : Int) < (k : Int) := by omega
          have hkz5 : 0 < k := by omega
          have hk1 : (k : Int) - 1 = (j : Int) := by omega
          have hk2 : IntKind.i64.wrap ((k : Int) - 1) = (j : Int) := by rw [hk1]; exact IntWalk.i64_in _ (by omega)
          have hk3 : IntKind.i64.wrap (j : Int) = (j : Int) := IntWalk.i64_in _ (by omega)
          have hk5 : (0 : Int) ≤ (j : Int) := by omega
          have hk6 : (j : Int) < (l.length : Int) := by omega
          have hst := hid (fun (h : d.1 ≤ q.1) => zad hh.out.1 HD.out (by subst hj; rw [zdt hq HL.out, if_pos h]) (by decide : (9 : Int) ≠ 0))
          have hgo := hid (fun (h : ¬ d.1 ≤ q.1) => zah hh.out.1 HD.out (by subst hj; rw [zdt hq HL.out, if_neg h]))
          clear hj hq hc3 hkz
          by_cases ho : d.1 ≤ q.1
          · have hs2 := hid (hst.out ho)
            go_wp2_with fail
            refine (H2.out _).mono ?_
            rintro e w1 ⟨rfl, rfl⟩
            go_wp2
            go_quiet (fail)
            go_wp2
            go_ret
            exact ⟨zab (by rw [HP2.out, if_pos (by rw [hs2.out]; decide), hs2.out]), by have := hh.out.2; exact bel⟩
          have hg2 := hid (hgo.out ho)
          go_wp2_with fail
          refine (H2.out _).mono ?_
          rintro e w1 ⟨rfl, rfl⟩
          go_wp2
          go_quiet (fail)
          go_wp2
          go_roundw
          case rel => exact ⟨k + 1, by go_num, hid ⟨hg2.out, by have := hh.out.2; exact bel⟩⟩
          case measure => simp [intOf]; omega
        have p3 : higB d.2 = false := by simpa using p2
        rw [p3] at C2
        have H2 := hid C2
        have hst := hid (zad hh.out.1 HD.out (zhu p3) (by decide))
        clear C2 p2 p3
        go_wp2_with fail
        refine (H2.out _).mono ?_
        rintro e w1 ⟨rfl, rfl⟩
        go_wp2
        go_ret
        exact ⟨zab (by rw [HP2.out, if_pos (by rw [hst.out]; decide), hst.out]), by have := hh.out.2; exact bel⟩
      obtain rfl : k = l.length := by omega
      have hen := hid (zan hh.out.1)
      have e1 : wr.cell? ⟨g, off + 1, none⟩ = some (.int .i64 d0.2) := by have h9 := E0.out wr hh.out.2 1 (by decide); simpa [ptA] using h9
      have en : wr.cell? ⟨g, off + n * 2 + 1, none⟩ = some (.int .i64 dn.2) := EN.out wr hh.out.2 1 (by decide)
      by_cases q3 : d0.2 = dn.2
      · have q3' : (d0.2 == dn.2) = true := by simp [q3]
        have HF := hid q3
        go_wp2
        go_quiet (fail)
        go_wp2
        go_ret
        exact ⟨zab (by rw [HP2.out, if_neg (by rw [hen.out]; decide), HF.out]; simp), by have := hh.out.2; exact bel⟩
      have q3' : (d0.2 == dn.2) = false := by simp [q3]
      have HF := hid q3
      go_wp2
      go_quiet (fail)
      go_wp2
      go_ret
      exact ⟨zab (by rw [HP2.out, if_neg (by rw [hen.out]; decide), if_pos HF.out]), by have := hh.out.2; exact bel⟩
   have q2' : (dn.1 == 1000) = false := by simp [q2]
   have HF := hid (show waveE l = 2 from by rw [HP.out, if_pos (.inr (by simp [q2]))])
   go_enter Tryz.func319, Tryz.ntmps319
   go_wp2
   go_ret
   exact ⟨zab HF.out.symm, bel⟩
 have q1' : (d0.1 == 0) = false := by simp [q1]
 have HF := hid (show waveE l = 2 from by rw [HP.out, if_pos (.inl (by simp [q1]))])
 go_enter Tryz.func319, Tryz.ntmps319
 go_wp2
 go_ret
 exact ⟨zab HF.out.symm, bel⟩
theorem zpt (v : Value) (l : List Pt) (w : World) (hv : ListAt 2 ptA w v l) :
   Calls Tryz.prog 283 #[v] w fun e w' => e = .returned (.int .i64 (waveE l)) ∧ Below w.heap.size w w' := by
 obtain ⟨a, cap, rfl⟩ := hv.shape
 have hml := hv.few
 by_cases h2 : l.length < 2
 · have h3 : (l.length : Int) < 2 := by omega
   rw [waveE, if_pos (.inl h2)]
   clear hv
   go_enter Tryz.func283, Tryz.ntmps283
   go_wp2
   go_ret
   exact ⟨rfl, bel⟩
 have h3 : ¬ (l.length : Int) < 2 := by omega
 by_cases h4 : 16 < l.length
 · have h5 : (16 : Int) < (l.length : Int) := by omega
   rw [waveE, if_pos (.inr h4)]
   clear hv
   go_enter Tryz.func283, Tryz.ntmps283
   go_wp2
   go_ret
   exact ⟨rfl, bel⟩
 have h5 : ¬ (16 : Int) < (l.length : Int) := by omega
 have hP : waveE l = if (l.head?.map (·.1)) ≠ some 0 ∨ (l.getLast?.map (·.1)) ≠ some 1000 then 2 else if allB wvB l ≠ 0 then allB wvB l else if (l.head?.map (·.2)) ≠ (l.getLast?.map (·.2)) then 3 else 0 := by rw [waveE, if_neg (by omega)]
 obtain ⟨d0, hd0⟩ : ∃ d, l[0]? = some d := ⟨_, List.getElem?_eq_getElem (by omega)⟩
 obtain ⟨dn, hdn⟩ : ∃ d, l[l.length - 1]? = some d := ⟨_, List.getElem?_eq_getElem (by omega)⟩
 obtain ⟨g, off, cap', he, hg, hc⟩ := hv.at_ (by decide) hd0
 cases he
 obtain ⟨g2, off2, cap2, he2, -, hc2⟩ := hv.at_ (by decide) hdn
 cases he2
 rw [show l.head? = some d0 from by rw [List.head?_eq_getElem?, hd0], show l.getLast? = some dn from by rw [List.getLast?_eq_getElem?, hdn]] at hP
 simp only [Option.map_some] at hP
 obtain ⟨n, hn⟩ : ∃ n, l.length - 1 = n := ⟨_, rfl⟩
 rw [hn] at hc2
 have E0 := hid hc
 have EN := hid hc2
 have e0 : w.cell? ⟨g, off, none⟩ = some (.int .i64 d0.1) := by have h9 := E0.out w (Below.refl _ _) 0 (by decide); simpa [ptA] using h9
 have en : w.cell? ⟨g, off + n * 2, none⟩ = some (.int .i64 dn.1) := EN.out w (Below.refl _ _) 0 (by decide)
 have hn1 : (l.length : Int) - 1 = (n : Int) := by omega
 have hn2 : IntKind.i64.wrap ((l.length : Int) - 1) = (n : Int) := by rw [hn1]; exact IntWalk.i64_in _ (by omega)
 have hn3 : IntKind.i64.wrap (n : Int) = (n : Int) := IntWalk.i64_in _ (by omega)
 have hn5 : (0 : Int) ≤ (n : Int) := by omega
 have hn6 : (n : Int) < (l.length : Int) := by omega
 have hn7 : (0 : Int) < (l.length : Int) := by omega
 have HP := hid hP
 have HV := hid hv
 clear hP hv h2 h4 hc hc2 hd0 hdn hn
 by_cases q1 : d0.1 = 0
 · have q1' : (d0.1 == 0) = true := by simp [q1]
   by_cases q2 : dn.1 = 1000
   · have q2' : (dn.1 == 1000) = true := by simp [q2]
     have HP2 := hid (show waveE l = if allB wvB l ≠ 0 then allB wvB l else if d0.2 ≠ dn.2 then 3 else 0 from by rw [HP.out, if_neg (by rw [q1, q2]; simp)]; simp)
     go_enter Tryz.func283, Tryz.ntmps283
     go_wp2
     clear e0 en
     go_loopw [3] (fun i wr => ∃ k : Nat, i = .int .i64 k ∧ Hid (LoopB wvB l k ∧ Below w.heap.size w wr)) (fun i _ => l.length - (intOf i).toNat)
     case atStart => exact ⟨0, rfl, hid ⟨zam _ _, Below.refl _ _⟩⟩
     case round =>
      obtain ⟨k, rfl, hh⟩ := hrel
      have hk := hh.out.1.2.1
      have hbs := hh.out.2.size
      by_cases hlt : k < l.length
      · have hlt3 : (k : Int) < (l.length : Int) := by omega
        obtain ⟨d, hd⟩ : ∃ d, l[k]? = some d := ⟨_, List.getElem?_eq_getElem hlt⟩
        obtain ⟨g2, off2, cap2, he, -, hc⟩ := HV.out.at_ (by decide) hd
        cases he
        have e0 : wr.cell? ⟨g, off + k * 2, none⟩ = some (.int .i64 d.1) := hc wr hh.out.2 0 (by decide)
        have e1 : wr.cell? ⟨g, off + k * 2 + 1, none⟩ = some (.int .i64 d.2) := hc wr hh.out.2 1 (by decide)
        have hgr : g < wr.heap.size := by omega
        have C2 := fun W => ztg d.2 W
        have HD := hid hd
        clear hd hc hk
        by_cases p2 : higB d.2 = true
        · rw [p2] at C2
          have H2 := hid C2
          have HL := hid p2
          clear C2 p2
          by_cases hkz : k = 0
          · have hgo := hid (zah hh.out.1 HD.out (by subst hkz; exact zhd HL.out))
            have hkz2 : ¬ (0 : Int) < (k : Int) := by omega
            have hkz3 : decide (0 < k) = false := by simp; omega
            have hkz4 : decide ((0 : Int) < (k : Int)) = false := by simp; omega
            have hkz5 : ¬ 0 < k := by omega
            clear hkz
            go_wp2_with fail
            refine (H2.out _).mono ?_
            rintro e w1 ⟨rfl, rfl⟩
            go_wp2
            go_quiet (fail)
            go_wp2
            go_roundw
            case rel => exact ⟨k + 1, by go_num, hid ⟨hgo.out, by have := hh.out.2; exact bel⟩⟩
            case measure => simp [intOf]; omega
          obtain ⟨j, hj⟩ : ∃ j, k = j + 1 := ⟨k - 1, by omega⟩
          obtain ⟨q, hq⟩ : ∃ q, l[j]? = some q := ⟨_, List.getElem?_eq_getElem (by omega)⟩
          obtain ⟨g3, off3, cap3, he3, -, hc3⟩ := HV.out.at_ (by decide) hq
          cases he3
          have f0 : wr.cell? ⟨g, off + j * 2, none⟩ = some (.int .i64 q.1) := hc3 wr hh.out.2 0 (by decide)
          have hkz2 : (0 : Int) < (k : Int) := by omega
          have hkz5 : 0 < k := by omega
          have hk1 : (k : Int) - 1 = (j : Int) := by omega
          have hk2 : IntKind.i64.wrap ((k : Int) - 1) = (j : Int) := by rw [hk1]; exact IntWalk.i64_in _ (by omega)
          have hk3 : IntKind.i64.wrap (j : Int) = (j : Int) := IntWalk.i64_in _ (by omega)
          have hk5 : (0 : Int) ≤ (j : Int) := by omega
          have hk6 : (j : Int) < (l.length : Int) := by omega
          have hst := hid (fun (h : d.1 ≤ q.1) => zad hh.out.1 HD.out (by subst hj; rw [zdt hq HL.out, if_pos h]) (by decide : (9 : Int) ≠ 0))
          have hgo := hid (fun (h : ¬ d.1 ≤ q.1) => zah hh.out.1 HD.out (by subst hj; rw [zdt hq HL.out, if_neg h]))
          clear hj hq hc3 hkz
          by_cases ho : d.1 ≤ q.1
          · have hs2 := hid (hst.out ho)
            go_wp2_with fail
            refine (H2.out _).mono ?_
            rintro e w1 ⟨rfl, rfl⟩
            go_wp2
            go_quiet (fail)
            go_wp2
            go_ret
            exact ⟨zab (by rw [HP2.out, if_pos (by rw [hs2.out]; decide), hs2.out]), by have := hh.out.2; exact bel⟩
          have hg2 := hid (hgo.out ho)
          go_wp2_with fail
          refine (H2.out _).mono ?_
          rintro e w1 ⟨rfl, rfl⟩
          go_wp2
          go_quiet (fail)
          go_wp2
          go_roundw
          case rel => exact ⟨k + 1, by go_num, hid ⟨hg2.out, by have := hh.out.2; exact bel⟩⟩
          case measure => simp [intOf]; omega
        have p3 : higB d.2 = false := by simpa using p2
        rw [p3] at C2
        have H2 := hid C2
        have hst := hid (zad hh.out.1 HD.out (zhu p3) (by decide))
        clear C2 p2 p3
        go_wp2_with fail
        refine (H2.out _).mono ?_
        rintro e w1 ⟨rfl, rfl⟩
        go_wp2
        go_ret
        exact ⟨zab (by rw [HP2.out, if_pos (by rw [hst.out]; decide), hst.out]), by have := hh.out.2; exact bel⟩
      obtain rfl : k = l.length := by omega
      have hen := hid (zan hh.out.1)
      have e1 : wr.cell? ⟨g, off + 1, none⟩ = some (.int .i64 d0.2) := by have h9 := E0.out wr hh.out.2 1 (by decide); simpa [ptA] using h9
      have en : wr.cell? ⟨g, off + n * 2 + 1, none⟩ = some (.int .i64 dn.2) := EN.out wr hh.out.2 1 (by decide)
      by_cases q3 : d0.2 = dn.2
      · have q3' : (d0.2 == dn.2) = true := by simp [q3]
        have HF := hid q3
        go_wp2
        go_quiet (fail)
        go_wp2
        go_ret
        exact ⟨zab (by rw [HP2.out, if_neg (by rw [hen.out]; decide), HF.out]; simp), by have := hh.out.2; exact bel⟩
      have q3' : (d0.2 == dn.2) = false := by simp [q3]
      have HF := hid q3
      go_wp2
      go_quiet (fail)
      go_wp2
      go_ret
      exact ⟨zab (by rw [HP2.out, if_neg (by rw [hen.out]; decide), if_pos HF.out]), by have := hh.out.2; exact bel⟩
   have q2' : (dn.1 == 1000) = false := by simp [q2]
   have HF := hid (show waveE l = 2 from by rw [HP.out, if_pos (.inr (by simp [q2]))])
   go_enter Tryz.func283, Tryz.ntmps283
   go_wp2
   go_ret
   exact ⟨zab HF.out.symm, bel⟩
 have q1' : (d0.1 == 0) = false := by simp [q1]
 have HF := hid (show waveE l = 2 from by rw [HP.out, if_pos (.inl (by simp [q1]))])
 go_enter Tryz.func283, Tryz.ntmps283
 go_wp2
 go_ret
 exact ⟨zab HF.out.symm, bel⟩
theorem zjh {p : List Int} {k : Nat} {d : Int} (hd : p[k]? = some d) : p.any (fun q => decide (q = d)) = true := by
 rw [List.any_eq_true]
 exact ⟨d, List.mem_of_getElem? hd, by simp⟩
theorem zj6 {p : List Int} {k : Nat} {d c : Int} (hd : p[k]? = some d) (hf : (p.take k).any (fun q => decide (q = c)) = false) (hq : ¬ d = c) : (p.take (k + 1)).any (fun q => decide (q = c)) = false := by
 rw [zaf hd, List.any_append, hf]
 simp [hq]
theorem zlj {p : List Int} {c : Int} (hf : (p.take p.length).any (fun q => decide (q = c)) = false) : p.any (fun q => decide (q = c)) = false := by rwa [List.take_length] at hf
def IdxPost (p : List Int) (c : Int) (e : Ending) : Prop := ∃ n, e = .returned (.int .i64 n) ∧ decide (0 ≤ n) = p.any (fun q => decide (q = c))
theorem zof (v : Value) (p : List Int) (c : Int) (w : World) (hv : ListAt 1 intC w v p) :
  Calls Tryz.prog 349 #[v, .int .i64 c] w fun e w' => IdxPost p c e ∧ w = w' := by
 obtain ⟨a, cap, rfl⟩ := hv.shape
 have hml := hv.few
 have HV := hid hv
 clear hv
 go_enter Tryz.func349, Tryz.ntmps349
 go_wp2
 go_loopw [5, 8] (fun _ i wr => ∃ k : Nat, k ≤ p.length ∧ i = .int .i64 k ∧ Hid ((p.take k).any (fun q => decide (q = c)) = false) ∧ w = wr) (fun _ i _ => p.length - (intOf i).toNat)
 case atStart => exact ⟨0, Nat.zero_le _, rfl, hid rfl, rfl⟩
 case round =>
  obtain ⟨k, hk, rfl, hf, rfl⟩ := hrel
  by_cases hlt : k < p.length
  · have hlt3 : (k : Int) < (p.length : Int) := by omega
    obtain ⟨d, hd⟩ : ∃ d, p[k]? = some d := ⟨_, List.getElem?_eq_getElem hlt⟩
    obtain ⟨g, off, cap', he, hg, hc⟩ := HV.out.at_ (by decide) hd
    cases he
    have e0 : w.cell? ⟨g, off + k, none⟩ = some (.int .i64 d) := by have h9 := hc w (Below.refl _ _) 0 (by decide); rw [Nat.mul_one, Nat.add_zero] at h9; exact h9
    have HD := hid hd
    clear hd hc
    by_cases hq : d = c
    · subst hq
      have hall := hid (zjh HD.out)
      go_wp2
      go_ret
      exact ⟨⟨(k : Int), rfl, by rw [hall.out]; simp⟩, rfl⟩
    have hq1 : (d == c) = false := by simpa using hq
    have hq2 : (c == d) = false := by simpa using fun h : c = d => hq h.symm
    have hnx := hid (zj6 HD.out hf.out hq)
    clear hq
    go_wp2
    go_roundw
    case rel => exact ⟨k + 1, by omega, by go_num, hnx, by first | rfl | trivial⟩
    case measure => simp [intOf]; omega
  obtain rfl : k = p.length := by omega
  have hno := hid (zlj hf.out)
  go_wp2
  go_ret
  exact ⟨⟨-1, rfl, by rw [hno.out]; rfl⟩, rfl⟩
theorem zxo (v : Value) (p : List Int) (c : Int) (w : World) (hv : ListAt 1 intC w v p) :
   Calls Tryz.prog 308 #[v, .int .i64 c] w fun e w' => e = .returned (.bool (p.any (fun q => decide (q = c)))) ∧ w = w' := by
 obtain ⟨a, cap, rfl⟩ := hv.shape
 have C := hid (zof _ p c w hv)
 clear hv
 go_enter Tryz.func308, Tryz.ntmps308
 go_wp2_with fail
 refine C.out.mono ?_
 rintro e w1 ⟨⟨n, rfl, hn⟩, rfl⟩
 have HN := hid hn
 clear hn
 by_cases h0 : 0 ≤ n
 · go_wp2
   go_ret
   exact ⟨zac (by rw [← HN.out] <;> simp [h0]), rfl⟩
 go_wp2
 go_ret
 exact ⟨zac (by rw [← HN.out] <;> simp [h0]), rfl⟩
theorem zsh (v : Value) (p : List Int) (c : Int) (w : World) (hv : ListAt 1 intC w v p) :
  Calls Tryz.prog 281 #[v, .int .i64 c] w fun e w' => e = .returned (.bool (p.any (fun q => decide (q = c)))) ∧ w = w' := by
 obtain ⟨a, cap, rfl⟩ := hv.shape
 have hml := hv.few
 have HV := hid hv
 clear hv
 go_enter Tryz.func281, Tryz.ntmps281
 go_wp2
 go_loopw [5] (fun i wr => ∃ k : Nat, k ≤ p.length ∧ i = .int .i64 k ∧ Hid ((p.take k).any (fun q => decide (q = c)) = false) ∧ w = wr) (fun i _ => p.length - (intOf i).toNat)
 case atStart => exact ⟨0, Nat.zero_le _, rfl, hid rfl, rfl⟩
 case round =>
  obtain ⟨k, hk, rfl, hf, rfl⟩ := hrel
  by_cases hlt : k < p.length
  · have hlt3 : (k : Int) < (p.length : Int) := by omega
    obtain ⟨d, hd⟩ : ∃ d, p[k]? = some d := ⟨_, List.getElem?_eq_getElem hlt⟩
    obtain ⟨g, off, cap', he, hg, hc⟩ := HV.out.at_ (by decide) hd
    cases he
    have e0 : w.cell? ⟨g, off + k, none⟩ = some (.int .i64 d) := by have h9 := hc w (Below.refl _ _) 0 (by decide); rw [Nat.mul_one, Nat.add_zero] at h9; exact h9
    have HD := hid hd
    clear hd hc
    by_cases hq : d = c
    · subst hq
      have hall := hid (zjh HD.out)
      go_wp2
      go_ret
      exact ⟨zac (by rw [hall.out]), rfl⟩
    have hq1 : (d == c) = false := by simpa using hq
    have hq2 : (c == d) = false := by simpa using fun h : c = d => hq h.symm
    have hnx := hid (zj6 HD.out hf.out hq)
    clear hq
    go_wp2
    go_roundw
    case rel => exact ⟨k + 1, by omega, by go_num, hnx, by first | rfl | trivial⟩
    case measure => simp [intOf]; omega
  obtain rfl : k = p.length := by omega
  have hno := hid (zlj hf.out)
  go_wp2
  go_ret
  exact ⟨zac (by rw [hno.out]), rfl⟩
theorem zsi (d : GrpD) (v : Value) (w : World) (hr : RGrp w (d, v)) :
   Calls Tryz.prog 269 #[.agg #[.int .i64 d.num, v]] w fun e w' => e = .returned (.int .i64 (grpE d)) ∧ Below w.heap.size w w' := by
 obtain ⟨num, l⟩ := d
 obtain ⟨hv, hcap⟩ := hr
 simp only at hv hcap ⊢
 obtain ⟨a, cap, rfl⟩ := hv.shape
 have hml := hv.few
 have hlc := hcap _ _ _ rfl
 have b0 : Below w.heap.size w (w.alloc (.cells #[.int .i64 num, .slice a l.length cap] 147)) := bel
 have s0 := RowAt.new w 147 #[.int .i64 num, .slice a l.length cap]
 obtain ⟨r, hr⟩ : ∃ r, grpE ⟨num, l⟩ = r := ⟨_, rfl⟩
 rw [hr]
 have HR := hid hr
 have HV := hid hv
 have H0 := hid (And.intro s0 b0)
 clear hv hcap hr s0 b0
 by_cases h1 : num < 1
 · have hq : r = 2 := by rw [← HR.out, grpE, if_pos (.inl h1)]
   subst hq
   go_enter Tryz.func269, Tryz.ntmps269
   go_wp2
   go_ret
   exact ⟨rfl, bel⟩
 by_cases h2 : 1048576 < num
 · have hq : r = 2 := by rw [← HR.out, grpE, if_pos (.inr h2)]
   subst hq
   go_enter Tryz.func269, Tryz.ntmps269
   go_wp2
   go_ret
   exact ⟨rfl, bel⟩
 by_cases h4 : 256 < l.length
 · have h5 : (256 : Int) < (l.length : Int) := by omega
   have hq : r = 5 := by rw [← HR.out, grpE, if_neg (by simp only; omega), if_pos h4]
   subst hq
   go_enter Tryz.func269, Tryz.ntmps269
   go_wp2
   go_ret
   exact ⟨rfl, bel⟩
 have h5 : ¬ (256 : Int) < (l.length : Int) := by omega
 have HP := hid (show allB chE l = r from by rw [← HR.out, grpE, if_neg (by simp only; omega), if_neg h4])
 clear h4
 go_enter Tryz.func269, Tryz.ntmps269
 go_wp2
 go_loopw [3, 4, 20] (fun _ _ i wr => ∃ k : Nat, i = .int .i64 k ∧ Hid (LoopB chE l k ∧ RowAt wr w.heap.size 147 #[.int .i64 num, .slice a l.length cap] ∧ Below w.heap.size w wr)) (fun _ _ i _ => l.length - (intOf i).toNat)
 case atStart => exact ⟨0, rfl, hid ⟨zam _ _, H0.out⟩⟩
 case round =>
   obtain ⟨k, rfl, hh⟩ := hrel
   have hk := hh.out.1.2.1
   have hbs := hh.out.2.2.size
   obtain ⟨x1, x2, x3, x4, x5, x6⟩ := zaa hh.out.2.1
   by_cases hlt : k < l.length
   · have hlt3 : (k : Int) < (l.length : Int) := by omega
     have hlt4 : (k : Int) ≤ (cap : Int) := by omega
     have hlt5 : k ≤ cap := by omega
     have hlt6 : (0 : Int) ≤ (k : Int) := by omega
     have hlt7 : (cap : Int) ≤ 140737488355328 ∨ True := .inr trivial
     obtain ⟨c, hd⟩ : ∃ c, l[k]? = some c := ⟨_, List.getElem?_eq_getElem hlt⟩
     obtain ⟨g, off, cap', he, hg, hc⟩ := HV.out.at_ (by decide) hd
     cases he
     have e0 : wr.cell? ⟨g, off + k, none⟩ = some (.int .i64 c) := by have h9 := hc wr hh.out.2.2 0 (by decide); rw [Nat.mul_one, Nat.add_zero] at h9; exact h9
     have hgr : g < wr.heap.size := by omega
     have hgn : ¬ g = w.heap.size := by omega
     obtain ⟨t, ht⟩ : ∃ t, (l.take k).any (fun q => decide (q = c)) = t := ⟨_, rfl⟩
     have hlen : (l.take k).length = k := by rw [List.length_take]; omega
     have C := fun W (hb : Below w.heap.size w W) => zxo _ (l.take k) c W ((HV.out.take (k := k) (by omega)).run hb)
     rw [ht] at C
     have HX := hid ht
     have HD := hid hd
     clear hd hc hk ht x1
     have x1 := (zaa hh.out.2.1).1 1
     simp at x1
     by_cases p1 : c < 1
     · have hst := hid (zad hh.out.1 HD.out (show chE _ c = 2 from by rw [chE, if_pos (.inl p1)]) (by decide))
       clear C
       go_wp2
       go_ret
       exact ⟨zab (by rw [← HP.out, hst.out]), by have := hh.out.2.2; exact bel⟩
     by_cases p2 : 999 < c
     · have hst := hid (zad hh.out.1 HD.out (show chE _ c = 2 from by rw [chE, if_pos (.inr p2)]) (by decide))
       clear C
       go_wp2
       go_ret
       exact ⟨zab (by rw [← HP.out, hst.out]), by have := hh.out.2.2; exact bel⟩
     have H1 := hid C
     clear C
     cases t with
     | true =>
       have hst := hid (zad hh.out.1 HD.out (show chE _ c = 7 from by rw [chE, if_neg (by omega), if_pos HX.out]) (by decide))
       go_wp2_with fail
       refine (H1.out _ (by have := hh.out.2.2; exact bel)).mono ?_
       rintro e w1 ⟨rfl, rfl⟩
       go_wp2
       go_ret
       exact ⟨zab (by rw [← HP.out, hst.out]), by have := hh.out.2.2; exact bel⟩
     | false =>
       have hgo := hid (zah hh.out.1 HD.out (show chE _ c = 0 from by rw [chE, if_neg (by omega), if_neg (by rw [HX.out]; decide)]))
       go_wp2_with fail
       refine (H1.out _ (by have := hh.out.2.2; exact bel)).mono ?_
       rintro e w1 ⟨rfl, rfl⟩
       go_wp2
       go_roundw
       case rel => exact ⟨k + 1, by go_num, hid ⟨hgo.out, by first | exact hh.out.2.1 | exact hh.out.2.1.drewN _ | exact hh.out.2.1.drew, by have := hh.out.2.2; exact bel⟩⟩
       case measure => simp [intOf]; omega
   obtain rfl : k = l.length := by omega
   have hen := hid (zan hh.out.1)
   go_wp2
   go_ret
   exact ⟨zab (by rw [← HP.out, hen.out]), hh.out.2.2⟩
theorem zuj (d : GrpD) (v : Value) (w : World) (hr : RGrp w (d, v)) :
   Calls Tryz.prog 212 #[.agg #[.int .i64 d.num, v]] w fun e w' => e = .returned (.int .i64 (grpE d)) ∧ Below w.heap.size w w' := by
 obtain ⟨num, l⟩ := d
 obtain ⟨hv, hcap⟩ := hr
 simp only at hv hcap ⊢
 obtain ⟨a, cap, rfl⟩ := hv.shape
 have hml := hv.few
 have hlc := hcap _ _ _ rfl
 have b0 : Below w.heap.size w (w.alloc (.cells #[.int .i64 num, .slice a l.length cap] 147)) := bel
 have s0 := RowAt.new w 147 #[.int .i64 num, .slice a l.length cap]
 obtain ⟨r, hr⟩ : ∃ r, grpE ⟨num, l⟩ = r := ⟨_, rfl⟩
 rw [hr]
 have HR := hid hr
 have HV := hid hv
 have H0 := hid (And.intro s0 b0)
 clear hv hcap hr s0 b0
 by_cases h1 : num < 1
 · have hq : r = 2 := by rw [← HR.out, grpE, if_pos (.inl h1)]
   subst hq
   go_enter Tryz.func212, Tryz.ntmps212
   go_wp2
   go_ret
   exact ⟨rfl, bel⟩
 by_cases h2 : 1048576 < num
 · have hq : r = 2 := by rw [← HR.out, grpE, if_pos (.inr h2)]
   subst hq
   go_enter Tryz.func212, Tryz.ntmps212
   go_wp2
   go_ret
   exact ⟨rfl, bel⟩
 by_cases h4 : 256 < l.length
 · have h5 : (256 : Int) < (l.length : Int) := by omega
   have hq : r = 5 := by rw [← HR.out, grpE, if_neg (by simp only; omega), if_pos h4]
   subst hq
   go_enter Tryz.func212, Tryz.ntmps212
   go_wp2
   go_ret
   exact ⟨rfl, bel⟩
 have h5 : ¬ (256 : Int) < (l.length : Int) := by omega
 have HP := hid (show allB chE l = r from by rw [← HR.out, grpE, if_neg (by simp only; omega), if_neg h4])
 clear h4
 go_enter Tryz.func212, Tryz.ntmps212
 go_wp2
 go_loopw [3] (fun i wr => ∃ k : Nat, i = .int .i64 k ∧ Hid (LoopB chE l k ∧ RowAt wr w.heap.size 147 #[.int .i64 num, .slice a l.length cap] ∧ Below w.heap.size w wr)) (fun i _ => l.length - (intOf i).toNat)
 case atStart => exact ⟨0, rfl, hid ⟨zam _ _, H0.out⟩⟩
 case round =>
   obtain ⟨k, rfl, hh⟩ := hrel
   have hk := hh.out.1.2.1
   have hbs := hh.out.2.2.size
   obtain ⟨x1, x2, x3, x4, x5, x6⟩ := zaa hh.out.2.1
   by_cases hlt : k < l.length
   · have hlt3 : (k : Int) < (l.length : Int) := by omega
     have hlt4 : (k : Int) ≤ (cap : Int) := by omega
     have hlt5 : k ≤ cap := by omega
     have hlt6 : (0 : Int) ≤ (k : Int) := by omega
     have hlt7 : (cap : Int) ≤ 140737488355328 ∨ True := .inr trivial
     obtain ⟨c, hd⟩ : ∃ c, l[k]? = some c := ⟨_, List.getElem?_eq_getElem hlt⟩
     obtain ⟨g, off, cap', he, hg, hc⟩ := HV.out.at_ (by decide) hd
     cases he
     have e0 : wr.cell? ⟨g, off + k, none⟩ = some (.int .i64 c) := by have h9 := hc wr hh.out.2.2 0 (by decide); rw [Nat.mul_one, Nat.add_zero] at h9; exact h9
     have hgr : g < wr.heap.size := by omega
     have hgn : ¬ g = w.heap.size := by omega
     obtain ⟨t, ht⟩ : ∃ t, (l.take k).any (fun q => decide (q = c)) = t := ⟨_, rfl⟩
     have hlen : (l.take k).length = k := by rw [List.length_take]; omega
     have C := fun W (hb : Below w.heap.size w W) => zsh _ (l.take k) c W ((HV.out.take (k := k) (by omega)).run hb)
     rw [ht] at C
     have HX := hid ht
     have HD := hid hd
     clear hd hc hk ht x1
     have x1 := (zaa hh.out.2.1).1 1
     simp at x1
     by_cases p1 : c < 1
     · have hst := hid (zad hh.out.1 HD.out (show chE _ c = 2 from by rw [chE, if_pos (.inl p1)]) (by decide))
       clear C
       go_wp2
       go_ret
       exact ⟨zab (by rw [← HP.out, hst.out]), by have := hh.out.2.2; exact bel⟩
     by_cases p2 : 999 < c
     · have hst := hid (zad hh.out.1 HD.out (show chE _ c = 2 from by rw [chE, if_pos (.inr p2)]) (by decide))
       clear C
       go_wp2
       go_ret
       exact ⟨zab (by rw [← HP.out, hst.out]), by have := hh.out.2.2; exact bel⟩
     have H1 := hid C
     clear C
     cases t with
     | true =>
       have hst := hid (zad hh.out.1 HD.out (show chE _ c = 7 from by rw [chE, if_neg (by omega), if_pos HX.out]) (by decide))
       have hb9 := hh.out.2.2
       go_wp2
       go_region_held3 (fun w' => w'.cell? ⟨w.heap.size, 1, none⟩ = some (.slice (some ⟨g, off, none⟩) l.length cap) ∧ w'.cell? ⟨g, off + k, none⟩ = some (.int .i64 c)) (go_keep) ((go_at_call 281; refine (H1.out _ bel).mono ?_; rintro e w1 ⟨rfl, rfl⟩))
       all_goals
        go_wp2
        go_ret
        exact ⟨zab (by rw [← HP.out, hst.out]), by have := hh.out.2.2; exact bel⟩
     | false =>
       have hgo := hid (zah hh.out.1 HD.out (show chE _ c = 0 from by rw [chE, if_neg (by omega), if_neg (by rw [HX.out]; decide)]))
       have hb9 := hh.out.2.2
       go_wp2
       go_region_held3 (fun w' => w'.cell? ⟨w.heap.size, 1, none⟩ = some (.slice (some ⟨g, off, none⟩) l.length cap) ∧ w'.cell? ⟨g, off + k, none⟩ = some (.int .i64 c)) (go_keep) ((go_at_call 281; refine (H1.out _ bel).mono ?_; rintro e w1 ⟨rfl, rfl⟩))
       all_goals
        go_wp2
        go_roundw
        case rel => exact ⟨k + 1, by go_num, hid ⟨hgo.out, by first | exact hh.out.2.1 | exact hh.out.2.1.drewN _ | exact hh.out.2.1.drew, by have := hh.out.2.2; exact bel⟩⟩
        case measure => simp [intOf]; omega
   obtain rfl : k = l.length := by omega
   have hen := hid (zan hh.out.1)
   go_wp2
   go_ret
   exact ⟨zab (by rw [← HP.out, hen.out]), hh.out.2.2⟩
end Go.Proofs.YtjeigphhepngmaaGreatDoor
