/- -/
import Derived.Test.YtjeigphhepngmaaGreatDoorAl
import Derived.Test.YtjeigphhepngmaaGreatDoorMs
import Derived.Test.YtjeigphhepngmaaGreatDoorOs
import Derived.Test.YtjeigphhepngmaaGreatDoorAv
namespace Go.Proofs.YtjeigphhepngmaaGreatDoor
open Go.RowKit
open Go.Lib (hid)
set_option maxHeartbeats 8000000
set_option linter.unusedSimpArgs false
set_option maxRecDepth 100000
theorem zl9 {ps : List ProfD} {p : List FixD} {d : FixD} (h : rangedB d = false) : fixE ps p d = 2 := by rw [fixE, zk1 h, if_pos (by decide)]
theorem zxn {ps : List ProfD} {p : List FixD} {d : FixD} (h : rangedB d = true) (h1 : d.cable.size ≠ 0) (h2 : nameB d.cable = false) : fixE ps p d = 8 := by rw [fixE, zif h h1 h2, if_pos (by decide)]
theorem zhq {ps : List ProfD} {p : List FixD} {d : FixD} (h : rangedB d = true) (h1 : ¬ (d.cable.size ≠ 0 ∧ nameB d.cable = false)) (h2 : profOf ps d.prof = none) : fixE ps p d = 6 := by
 have : aloneE ps d = 6 := by rw [zc8 h h1, h2]
 rw [fixE, this, if_pos (by decide)]
theorem zew {ps : List ProfD} {p : List FixD} {d : FixD} {q : ProfD} (h : rangedB d = true) (h1 : ¬ (d.cable.size ≠ 0 ∧ nameB d.cable = false)) (h2 : profOf ps d.prof = some q) (h3 : q.foot < 1 ∨ 512 - d.addr + 1 < q.foot) : fixE ps p d = 2 := by
 have : aloneE ps d = 2 := by rw [zc8 h h1, h2]; simp only; rw [if_pos h3]
 rw [fixE, this, if_pos (by decide)]
theorem zg8 {ps : List ProfD} {p : List FixD} {d : FixD} {q : ProfD} (h : rangedB d = true) (h1 : ¬ (d.cable.size ≠ 0 ∧ nameB d.cable = false)) (h2 : profOf ps d.prof = some q) (h3 : ¬ (q.foot < 1 ∨ 512 - d.addr + 1 < q.foot)) : fixE ps p d = if p.any (fun q => decide (q.ch = d.ch ∧ q.part = d.part)) then 7 else if p.any (fun q => overB ps q d) then 10 else 0 := by
 have : aloneE ps d = 0 := by rw [zc8 h h1, h2]; simp only; rw [if_neg h3]
 rw [fixE, this, if_neg (by decide)]
def spanL (F : Nat → Int) (a n : Nat) : List Int := (List.range n).map fun j => F (a + j)
theorem zik {ps : List ProfD} {l : List FixD} {d : FixD} {F : Nat → Int} {a n : Nat} (h : Says ps d.uni l F) (hg : ∀ q ∈ l, GoodF ps q) (ha : d.addr = (a : Int)) (hn : footOf ps d = (n : Int)) (h1 : 1 ≤ n) (h2 : a + n ≤ 513) :
   (spanL F a n).any (fun x => decide (0 < x)) = l.any (fun q => overB ps q d) := by
 rw [Bool.eq_iff_iff, List.any_eq_true, List.any_eq_true]
 constructor
 · rintro ⟨x, hx, hp⟩
   simp only [spanL, List.mem_map, List.mem_range] at hx
   obtain ⟨j, hj, rfl⟩ := hx
   rw [h (a + j) (by omega)] at hp
   simp only [takB, List.any_eq_true, decide_eq_true_eq] at hp
   obtain ⟨q, hq, hu, hq1, hq2⟩ := hp
   refine ⟨q, hq, ?_⟩
   simp only [overB, decide_eq_true_eq, ha, hn]
   omega
 rintro ⟨q, hq, ho⟩
 simp only [overB, decide_eq_true_eq, ha, hn] at ho
 obtain ⟨hu, ho1, ho2⟩ := ho
 obtain ⟨p, hp, hg1, hg2, hg3⟩ := hg q hq
 have hfq : footOf ps q = p.foot := by unfold footOf; rw [hp]
 rw [hfq] at ho2
 have key : ∃ j : Nat, j < n ∧ q.addr ≤ (a : Int) + j ∧ (a : Int) + j < q.addr + p.foot := by
   by_cases hc : q.addr ≤ (a : Int)
   · exact ⟨0, by omega, by omega, by omega⟩
   exact ⟨(q.addr - a).toNat, by omega, by omega, by omega⟩
 obtain ⟨j, hj, hj1, hj2⟩ := key
 refine ⟨F (a + j), by simp only [spanL, List.mem_map, List.mem_range]; exact ⟨j, hj, rfl⟩, ?_⟩
 rw [h (a + j) (by omega)]
 simp only [takB, List.any_eq_true, decide_eq_true_eq]
 exact ⟨q, hq, hu, by omega, by rw [hfq]; omega⟩
theorem zhr {w : World} {b : Nat} {F : Nat → Int} (h : SlotsAt w b F) {a n cap : Nat} (h1 : 1 ≤ n) (h2 : a + n ≤ 513) : ListAt 1 intC w (.slice (some ⟨b, a, none⟩) n cap) (spanL F a n) := by
 have hl : (spanL F a n).length = n := by simp [spanL]
 obtain ⟨f1, f2, f3⟩ := h.facts
 refine .inr ⟨by omega, by omega, b, a, cap, by rw [hl], f3, fun j hj => ?_⟩
 rw [hl] at hj
 rw [f1 (a + j) (by omega), genC]
 simp only [Nat.div_one, Nat.mod_one]
 have : (spanL F a n)[j]? = some (F (a + j)) := by
  rw [spanL, List.getElem?_map, List.getElem?_range (by omega)]
  rfl
 rw [this]
 rfl
theorem zqf : Tryz.prog.arrayLen 408 = 513 := by kernel_rfl
theorem zu9 (v : Value) (l : List FixD) (i mb : Nat) (d : FixD) (xs : List (ProfD × Value)) (w : World) (hv : ListAt 7 fixA w v l) (hcap : CapOk v) (hd : l[i]? = some d) (hm : MapAt kS w mb (xs.map profG)) (hg : ∀ q ∈ l.take i, GoodF (xs.map (·.1)) q) (hs : d.cable.size ≤ 9223372036854775806) (hx : ∀ x ∈ xs, ∃ u, RProf u x) :
   Calls Tryz.prog 307 #[.agg #[v, .map (some mb)], .int .i64 i] w fun e w' => e = .returned (.int .i64 (fixE (xs.map (·.1)) (l.take i) d)) ∧ Below w.heap.size w w' := by
 obtain ⟨C, hC, hz⟩ := zlo.out
 have hul := zqf
 have hi := (List.getElem?_eq_some_iff.1 hd).1
 obtain ⟨g, off, cap, he, hg0, hc⟩ := hv.at_ (by decide) hd
 have hic : i ≤ cap := by have := hcap _ _ _ he; omega
 have hik : (i : Int) ≤ (cap : Int) := by omega
 have hil : (i : Int) < (l.length : Int) := by omega
 have hml := hv.few
 have HV := hid (show ListAt 7 fixA w (.slice (some ⟨g, off, none⟩) i cap) (l.take i) from by
   rw [he] at hv
   exact hv.take (by omega))
 have HM := hid hm
 have HX := hid hx
 have HG := hid hg
 have HC := hid hC
 obtain ⟨r, hr⟩ : ∃ r, fixE (xs.map (·.1)) (l.take i) d = r := ⟨_, rfl⟩
 rw [hr, he]
 have HR := hid hr
 obtain ⟨bb, hb⟩ : ∃ b, rangedB d = b := ⟨_, rfl⟩
 have HB := hid hb
 have hrg := hid (show bb = true → 1 ≤ d.addr ∧ d.addr ≤ 512 from fun h => by rw [h] at hb; simp [rangedB] at hb; omega)
 have hes := zkh d.cable
 have A := hid (fun (W : World) => hb ▸ zv2 d W)
 have N := hid (fun (W : World) => zpe d.cable W hs)
 obtain ⟨m, hmn⟩ : ∃ m, nameB d.cable = m := ⟨_, rfl⟩
 have HN := hid hmn
 rw [hmn] at N
 have hcw := hc w (Below.refl _ _)
 clear hv hm hg hx hC hr hb hs hmn he hd hcap
 obtain ⟨ch, part, prof, uni, addr, phase, cable⟩ := d
 have e0 : w.cell? ⟨g, off + i * 7, none⟩ = some (.int .i64 ch) := hcw 0 (by decide)
 have e1 : w.cell? ⟨g, off + i * 7 + 1, none⟩ = some (.int .i64 part) := hcw 1 (by decide)
 have e2 : w.cell? ⟨g, off + i * 7 + 2, none⟩ = some (.string prof) := hcw 2 (by decide)
 have e3 : w.cell? ⟨g, off + i * 7 + 3, none⟩ = some (.int .i64 uni) := hcw 3 (by decide)
 have e4 : w.cell? ⟨g, off + i * 7 + 4, none⟩ = some (.int .i64 addr) := hcw 4 (by decide)
 have e5 : w.cell? ⟨g, off + i * 7 + 5, none⟩ = some (.int .i64 phase) := hcw 5 (by decide)
 have e6 : w.cell? ⟨g, off + i * 7 + 6, none⟩ = some (.string cable) := hcw 6 (by decide)
 simp only [fixA] at A N hrg HN hes
 clear hc hcw
 have hgn : ¬ g = w.heap.size := by omega
 obtain ⟨W1, hW1⟩ : ∃ W, (w.alloc (.cells #[.slice (some ⟨g, off, none⟩) l.length cap, .map (some mb)] 382)).alloc (.cells #[.int .i64 ch, .int .i64 part, .string prof, .int .i64 uni, .int .i64 addr, .int .i64 phase, .string cable] 173) = W := ⟨_, rfl⟩
 have q0 : RowAt W1 w.heap.size 382 #[.slice (some ⟨g, off, none⟩) l.length cap, .map (some mb)] := by rw [← hW1]; exact RowAt.alloc (RowAt.mk rfl rfl) _
 have q1 : RowAt W1 (w.heap.size + 1) 173 #[.int .i64 ch, .int .i64 part, .string prof, .int .i64 uni, .int .i64 addr, .int .i64 phase, .string cable] := by rw [← hW1]; exact RowAt.mk (by simp) rfl
 have qb : Below w.heap.size w W1 := by rw [← hW1]; exact bel
 have Q := hid (And.intro q0 (And.intro q1 qb))
 obtain ⟨x1, x2, x3, x4, x5, x6⟩ := zaa q1
 clear q0 q1 qb
 cases bb with
 | false =>
   have hq := hid ((zl9 (ps := xs.map (·.1)) (p := l.take i) HB.out).symm.trans HR.out)
   go_enter Tryz.func307, Tryz.ntmps307
   go_wp2_with fail
   refine (A.out _).mono ?_
   rintro e w1 ⟨rfl, hb1⟩
   have R1 := hid (And.intro (Q.out.1.run hb1) (And.intro (Q.out.2.1.run hb1) (Q.out.2.2.trans (hb1.mono Q.out.2.2.size))))
   clear hb1 x1 x2 x3 x4 x5 x6 hW1 e0 e1 e2 e3 e4 e5 e6 A Q hgn
   obtain ⟨x1, x2, x3, x4, x5, x6⟩ := zaa R1.out.2.1
   obtain ⟨y1, y2, y3, y4, y5, y6⟩ := zaa R1.out.1
   go_wp2
   go_ret
   exact ⟨zab hq.out, R1.out.2.2⟩
 | true =>
   by_cases hz0 : cable.size = 0
   · have he : cable.toList.isEmpty = true := by rw [hes]; simp [hz0]
     clear hes
     go_enter Tryz.func307, Tryz.ntmps307
     go_wp2_with fail
     refine (A.out _).mono ?_
     rintro e w1 ⟨rfl, hb1⟩
     have R1 := hid (And.intro (Q.out.1.run hb1) (And.intro (Q.out.2.1.run hb1) (Q.out.2.2.trans (hb1.mono Q.out.2.2.size))))
     clear hb1 x1 x2 x3 x4 x5 x6 hW1 e0 e1 e2 e3 e4 e5 e6 A Q hgn
     obtain ⟨x1, x2, x3, x4, x5, x6⟩ := zaa R1.out.2.1
     obtain ⟨y1, y2, y3, y4, y5, y6⟩ := zaa R1.out.1
     have HO := hid (show ¬ (cable.size ≠ 0 ∧ nameB cable = false) from (fun h => h.1 hz0))
     have hlk := zgi (HM.out.run R1.out.2.2) prof
     cases hx : findP xs prof with
     | none =>
       have hq := hid ((zhq (p := l.take i) HB.out HO.out (by rw [zct, hx]; rfl)).symm.trans HR.out)
       rw [hx] at hlk
       simp only [Option.map_none, Option.getD_none, Option.isSome_none] at hlk
       clear HM HV HG
       go_wp2
       go_ret
       exact ⟨zab hq.out, (R1.out.2.2.alloc R1.out.2.2.size _)⟩
     | some x =>
       rw [hx] at hlk
       have hpo : profOf (xs.map (·.1)) prof = some x.1 := by rw [zct, hx]; rfl
       have HP := hid hpo
       obtain ⟨⟨nm, ft, wt, fl⟩, fv⟩ := x
       simp only [profA, Option.map_some, Option.getD_some, Option.isSome_some] at hlk
       obtain ⟨ad1, ad2⟩ := hrg.out (by trivial)
       have k1 : IntKind.i64.wrap (512 - addr) = 512 - addr := IntWalk.i64_in _ (by omega)
       have k2 : IntKind.i64.wrap (512 - addr + 1) = 512 - addr + 1 := IntWalk.i64_in _ (by omega)
       have hsf : ∃ a n c, fv = .slice a n c := by
         obtain ⟨u, this⟩ := HX.out _ (List.mem_of_find?_eq_some hx)
         obtain ⟨a, c, e⟩ := this.1.shape
         exact ⟨a, _, c, e⟩
       obtain ⟨fa, fn, fc, rfl⟩ := hsf
       clear hx hpo
       by_cases f1 : ft < 1
       · have hq := hid ((zew (p := l.take i) HB.out HO.out HP.out (.inl f1)).symm.trans HR.out)
         clear HM HV HG
         go_wp2
         go_ret
         exact ⟨zab hq.out, by have := R1.out.2.2; exact bel⟩
       by_cases f2 : 512 - addr + 1 < ft
       · have hq := hid ((zew (p := l.take i) HB.out HO.out HP.out (.inr f2)).symm.trans HR.out)
         clear HM HV HG
         go_wp2
         go_ret
         exact ⟨zab hq.out, by have := R1.out.2.2; exact bel⟩
       have hq := hid ((zg8 (p := l.take i) HB.out HO.out HP.out (fun h => by simp only at h; omega)).symm.trans HR.out)
       have HF := hid (show footOf (xs.map (·.1)) ⟨ch, part, prof, uni, addr, phase, cable⟩ = ft from by unfold footOf; simp only [HP.out])
       obtain ⟨W6, hW6⟩ : ∃ W, w1.alloc (.cells #[.string nm, .int .i64 ft, .int .i64 wt, .slice fa fn fc] 89) = W := ⟨_, rfl⟩
       obtain ⟨kp, hkp⟩ : ∃ k, w1.heap.size = k := ⟨_, rfl⟩
       have p0 : RowAt W6 w.heap.size 382 #[.slice (some ⟨g, off, none⟩) l.length cap, .map (some mb)] := by rw [← hW6]; exact R1.out.1.alloc _
       have p1 : RowAt W6 (w.heap.size + 1) 173 #[.int .i64 ch, .int .i64 part, .string prof, .int .i64 uni, .int .i64 addr, .int .i64 phase, .string cable] := by rw [← hW6]; exact R1.out.2.1.alloc _
       have p2 : RowAt W6 kp 89 #[.string nm, .int .i64 ft, .int .i64 wt, .slice fa fn fc] := by rw [← hW6, ← hkp]; exact RowAt.new _ _ _
       have pb : Below w.heap.size w W6 := by rw [← hW6]; exact R1.out.2.2.alloc R1.out.2.2.size _
       have R6 := hid (And.intro p0 (And.intro p1 (And.intro p2 pb)))
       clear p0 p1 p2 pb
       obtain ⟨a1, a2, a3, a4, a5, a6⟩ := zaa R6.out.2.1
       obtain ⟨b1, b2, b3, b4, b5, b6⟩ := zaa R6.out.1
       obtain ⟨c1, c2, c3, c4, c5, c6⟩ := zaa R6.out.2.2.1
       obtain ⟨an, rfl⟩ : ∃ n : Nat, addr = (n : Int) := ⟨addr.toNat, by omega⟩
       obtain ⟨nf, rfl⟩ : ∃ n : Nat, ft = (n : Int) := ⟨ft.toNat, by omega⟩
       go_wp2_with fail
       clear x1 x2 x3 x4 x5 x6 y1 y2 y3 y4 y5 y6 hW6 hkp hlk
       go_region
       clear a1 a2 a3 a4 a5 a6 b1 b2 b3 b4 b5 b6 c1 c2 c3 c4 c5 c6
       obtain ⟨W7, hW7⟩ : ∃ W, (W6.alloc (.cells #[.slice (some ⟨g, off, none⟩) i cap, .map (some mb)] 382)).drew = W := ⟨_, rfl⟩
       have p1 : RowAt W7 (w.heap.size + 1) 173 #[.int .i64 ch, .int .i64 part, .string prof, .int .i64 uni, .int .i64 (an : Int), .int .i64 phase, .string cable] := by rw [← hW7]; exact (R6.out.2.1.alloc _).drew
       have p2 : RowAt W7 kp 89 #[.string nm, .int .i64 (nf : Int), .int .i64 wt, .slice fa fn fc] := by rw [← hW7]; exact (R6.out.2.2.1.alloc _).drew
       have p3 : RowAt W7 W6.heap.size 382 #[.slice (some ⟨g, off, none⟩) i cap, .map (some mb)] := by rw [← hW7]; exact (RowAt.new _ _ _).drew
       have pb : Below w.heap.size w W7 := by rw [← hW7]; exact (R6.out.2.2.2.alloc R6.out.2.2.2.size _).drew
       have R7 := hid (And.intro p1 (And.intro p2 (And.intro p3 pb)))
       obtain ⟨a1, a2, a3, a4, a5, a6⟩ := zaa p1
       obtain ⟨b1, b2, b3, b4, b5, b6⟩ := zaa p3
       clear p1 p2 p3 pb
       go_wp2_with fail
       clear a1 a2 a3 a4 a5 a6 b1 b2 b3 b4 b5 b6 hW7
       refine (zjc (.slice (some ⟨g, off, none⟩) i cap) (l.take i) mb ch part _ (HV.out.run R7.out.2.2.2)).mono ?_
       rintro e w2 ⟨⟨n, rfl, hn⟩, hb2⟩
       have R8 := hid (And.intro (R7.out.1.run hb2) (And.intro (R7.out.2.1.run hb2) (And.intro (R7.out.2.2.1.run hb2) (R7.out.2.2.2.trans (hb2.mono R7.out.2.2.2.size)))))
       clear hb2 R7 R6
       by_cases hn0 : 0 ≤ n
       · have h7 := hid (show 7 = r from by
          have h9 := hq.out
          rw [show (l.take i).any (fun q => decide (q.ch = ch ∧ q.part = part)) = true from by rw [← hn]; simpa using hn0, if_pos rfl] at h9
          exact h9)
         clear hn
         go_wp2
         go_ret
         exact ⟨zab h7.out, R8.out.2.2.2⟩
       have h7 := hid (show (if (l.take i).any (fun q => overB (xs.map (·.1)) q ⟨ch, part, prof, uni, (an : Int), phase, cable⟩) then 10 else 0) = r from by
         have h9 := hq.out
         rw [show (l.take i).any (fun q => decide (q.ch = ch ∧ q.part = part)) = false from by rw [← hn]; simpa using hn0, if_neg (by simp)] at h9
         exact h9)
       clear hn
       have D := hid (zkx (.slice (some ⟨g, off, none⟩) i cap) (l.take i) mb xs uni w2 (HV.out.run R8.out.2.2.2) (HM.out.run R8.out.2.2.2) HG.out)
       obtain ⟨a1, a2, a3, a4, a5, a6⟩ := zaa R8.out.1
       obtain ⟨b1, b2, b3, b4, b5, b6⟩ := zaa R8.out.2.2.1
       go_wp2_with fail
       refine D.out.mono ?_
       rintro e w3 ⟨⟨F, rfl, hF⟩, hb3⟩
       have R9 := hid (And.intro (R8.out.1.run hb3) (And.intro (R8.out.2.1.run hb3) (R8.out.2.2.2.trans (hb3.mono R8.out.2.2.2.size))))
       have HFS := hid hF
       clear hb3 hF a1 a2 a3 a4 a5 a6 b1 b2 b3 b4 b5 b6 D R8
       go_wp2_with fail
       rw [run_storeCells_new w3 408 C (cellsI F) (by rw [zbb]; exact (zero_of_info Tryz.info_univ).2) (by rw [HC.out, zbb, zbb]) (zg1 F)]
       obtain ⟨W9, hW9⟩ : ∃ W, w3.alloc (.cells (cellsI F) 408) = W := ⟨_, rfl⟩
       have p1 : RowAt W9 (w.heap.size + 1) 173 #[.int .i64 ch, .int .i64 part, .string prof, .int .i64 uni, .int .i64 (an : Int), .int .i64 phase, .string cable] := by rw [← hW9]; exact R9.out.1.alloc _
       have p2 : RowAt W9 kp 89 #[.string nm, .int .i64 (nf : Int), .int .i64 wt, .slice fa fn fc] := by rw [← hW9]; exact R9.out.2.1.alloc _
       have p3 : SlotsAt W9 w3.heap.size F := by rw [← hW9]; exact RowAt.new _ _ _
       have pb : Below w.heap.size w W9 := by rw [← hW9]; exact R9.out.2.2.alloc R9.out.2.2.size _
       have HA := hid (And.intro p3 pb)
       obtain ⟨a1, a2, a3, a4, a5, a6⟩ := zaa p1
       obtain ⟨b1, b2, b3, b4, b5, b6⟩ := zaa p2
       have kw : IntKind.i64.wrap ((an : Int) + (nf : Int)) = (an : Int) + (nf : Int) := IntWalk.i64_in _ (by omega)
       have n1 : (an : Int) ≤ (an : Int) + (nf : Int) := by omega
       have n2 : (an : Int) + (nf : Int) ≤ 513 := by omega
       have n3 : 0 ≤ (an : Int) := by omega
       have n4 : ¬ 513 = an := by omega
       have n5 : ((an : Int) + (nf : Int)).toNat = an + nf := by omega
       have n6 : an + nf - an = nf := by omega
       have C9 := hid (zd8 348 #[] (fun x => decide (0 < x)) (.slice (some ⟨w3.heap.size, an, none⟩) nf (513 - an)) (spanL F an nf) W9 (zhr p3 (by omega) (by omega)) zjy (fun d _ W _ => zil d W))
       have HX9 := hid (zik (d := ⟨ch, part, prof, uni, (an : Int), phase, cable⟩) (n := nf) (a := an) HFS.out HG.out rfl HF.out (by omega) (by omega))
       clear p1 p2 p3 pb
       go_wp2_with fail
       refine C9.out.mono ?_
       rintro e w4 ⟨rfl, hb4⟩
       rw [HX9.out]
       have HB9 := hid (HA.out.2.trans (hb4.mono HA.out.2.size))
       clear hb4 a1 a2 a3 a4 a5 a6 b1 b2 b3 b4 b5 b6
       cases hov : (l.take i).any (fun q => overB (xs.map (·.1)) q ⟨ch, part, prof, uni, (an : Int), phase, cable⟩) with
       | true =>
         have h8 := hid (show 10 = r from by have h9 := h7.out; rw [hov] at h9; exact h9)
         clear hov
         go_wp2
         go_ret
         exact ⟨zab h8.out, HB9.out⟩
       | false =>
         have h8 := hid (show 0 = r from by have h9 := h7.out; rw [hov] at h9; exact h9)
         clear hov
         go_wp2
         go_ret
         exact ⟨zab h8.out, HB9.out⟩
   have he : cable.toList.isEmpty = false := by rw [hes]; simp [hz0]
   clear hes
   go_enter Tryz.func307, Tryz.ntmps307
   go_wp2_with fail
   refine (A.out _).mono ?_
   rintro e w1 ⟨rfl, hb1⟩
   have R1 := hid (And.intro (Q.out.1.run hb1) (And.intro (Q.out.2.1.run hb1) (Q.out.2.2.trans (hb1.mono Q.out.2.2.size))))
   clear hb1 x1 x2 x3 x4 x5 x6 hW1 e0 e1 e2 e3 e4 e5 e6 A Q hgn
   obtain ⟨x1, x2, x3, x4, x5, x6⟩ := zaa R1.out.2.1
   obtain ⟨y1, y2, y3, y4, y5, y6⟩ := zaa R1.out.1
   go_wp2_with fail
   refine (N.out _).mono ?_
   rintro e v2 ⟨rfl, hb2⟩
   have R2 := hid (And.intro (R1.out.1.run hb2) (And.intro (R1.out.2.1.run hb2) (R1.out.2.2.trans (hb2.mono R1.out.2.2.size))))
   clear hb2 x1 x2 x3 x4 x5 x6 y1 y2 y3 y4 y5 y6 R1 N
   cases m with
   | false =>
     have hq := hid ((zxn (ps := xs.map (·.1)) (p := l.take i) HB.out hz0 HN.out).symm.trans HR.out)
     go_wp2
     go_ret
     exact ⟨zab hq.out, R2.out.2.2⟩
   | true =>
     obtain ⟨x1, x2, x3, x4, x5, x6⟩ := zaa R2.out.2.1
     obtain ⟨y1, y2, y3, y4, y5, y6⟩ := zaa R2.out.1
     have HO := hid (show ¬ (cable.size ≠ 0 ∧ nameB cable = false) from (fun h => by have := HN.out; rw [h.2] at this; cases this))
     have hlk := zgi (HM.out.run R2.out.2.2) prof
     cases hx : findP xs prof with
     | none =>
       have hq := hid ((zhq (p := l.take i) HB.out HO.out (by rw [zct, hx]; rfl)).symm.trans HR.out)
       rw [hx] at hlk
       simp only [Option.map_none, Option.getD_none, Option.isSome_none] at hlk
       clear HM HV HG
       go_wp2
       go_ret
       exact ⟨zab hq.out, (R2.out.2.2.alloc R2.out.2.2.size _)⟩
     | some x =>
       rw [hx] at hlk
       have hpo : profOf (xs.map (·.1)) prof = some x.1 := by rw [zct, hx]; rfl
       have HP := hid hpo
       obtain ⟨⟨nm, ft, wt, fl⟩, fv⟩ := x
       simp only [profA, Option.map_some, Option.getD_some, Option.isSome_some] at hlk
       obtain ⟨ad1, ad2⟩ := hrg.out (by trivial)
       have k1 : IntKind.i64.wrap (512 - addr) = 512 - addr := IntWalk.i64_in _ (by omega)
       have k2 : IntKind.i64.wrap (512 - addr + 1) = 512 - addr + 1 := IntWalk.i64_in _ (by omega)
       have hsf : ∃ a n c, fv = .slice a n c := by
         obtain ⟨u, this⟩ := HX.out _ (List.mem_of_find?_eq_some hx)
         obtain ⟨a, c, e⟩ := this.1.shape
         exact ⟨a, _, c, e⟩
       obtain ⟨fa, fn, fc, rfl⟩ := hsf
       clear hx hpo
       by_cases f1 : ft < 1
       · have hq := hid ((zew (p := l.take i) HB.out HO.out HP.out (.inl f1)).symm.trans HR.out)
         clear HM HV HG
         go_wp2
         go_ret
         exact ⟨zab hq.out, by have := R2.out.2.2; exact bel⟩
       by_cases f2 : 512 - addr + 1 < ft
       · have hq := hid ((zew (p := l.take i) HB.out HO.out HP.out (.inr f2)).symm.trans HR.out)
         clear HM HV HG
         go_wp2
         go_ret
         exact ⟨zab hq.out, by have := R2.out.2.2; exact bel⟩
       have hq := hid ((zg8 (p := l.take i) HB.out HO.out HP.out (fun h => by simp only at h; omega)).symm.trans HR.out)
       have HF := hid (show footOf (xs.map (·.1)) ⟨ch, part, prof, uni, addr, phase, cable⟩ = ft from by unfold footOf; simp only [HP.out])
       obtain ⟨W6, hW6⟩ : ∃ W, v2.alloc (.cells #[.string nm, .int .i64 ft, .int .i64 wt, .slice fa fn fc] 89) = W := ⟨_, rfl⟩
       obtain ⟨kp, hkp⟩ : ∃ k, v2.heap.size = k := ⟨_, rfl⟩
       have p0 : RowAt W6 w.heap.size 382 #[.slice (some ⟨g, off, none⟩) l.length cap, .map (some mb)] := by rw [← hW6]; exact R2.out.1.alloc _
       have p1 : RowAt W6 (w.heap.size + 1) 173 #[.int .i64 ch, .int .i64 part, .string prof, .int .i64 uni, .int .i64 addr, .int .i64 phase, .string cable] := by rw [← hW6]; exact R2.out.2.1.alloc _
       have p2 : RowAt W6 kp 89 #[.string nm, .int .i64 ft, .int .i64 wt, .slice fa fn fc] := by rw [← hW6, ← hkp]; exact RowAt.new _ _ _
       have pb : Below w.heap.size w W6 := by rw [← hW6]; exact R2.out.2.2.alloc R2.out.2.2.size _
       have R6 := hid (And.intro p0 (And.intro p1 (And.intro p2 pb)))
       clear p0 p1 p2 pb
       obtain ⟨a1, a2, a3, a4, a5, a6⟩ := zaa R6.out.2.1
       obtain ⟨b1, b2, b3, b4, b5, b6⟩ := zaa R6.out.1
       obtain ⟨c1, c2, c3, c4, c5, c6⟩ := zaa R6.out.2.2.1
       obtain ⟨an, rfl⟩ : ∃ n : Nat, addr = (n : Int) := ⟨addr.toNat, by omega⟩
       obtain ⟨nf, rfl⟩ : ∃ n : Nat, ft = (n : Int) := ⟨ft.toNat, by omega⟩
       go_wp2_with fail
       clear x1 x2 x3 x4 x5 x6 y1 y2 y3 y4 y5 y6 hW6 hkp hlk
       go_region
       clear a1 a2 a3 a4 a5 a6 b1 b2 b3 b4 b5 b6 c1 c2 c3 c4 c5 c6
       obtain ⟨W7, hW7⟩ : ∃ W, (W6.alloc (.cells #[.slice (some ⟨g, off, none⟩) i cap, .map (some mb)] 382)).drew = W := ⟨_, rfl⟩
       have p1 : RowAt W7 (w.heap.size + 1) 173 #[.int .i64 ch, .int .i64 part, .string prof, .int .i64 uni, .int .i64 (an : Int), .int .i64 phase, .string cable] := by rw [← hW7]; exact (R6.out.2.1.alloc _).drew
       have p2 : RowAt W7 kp 89 #[.string nm, .int .i64 (nf : Int), .int .i64 wt, .slice fa fn fc] := by rw [← hW7]; exact (R6.out.2.2.1.alloc _).drew
       have p3 : RowAt W7 W6.heap.size 382 #[.slice (some ⟨g, off, none⟩) i cap, .map (some mb)] := by rw [← hW7]; exact (RowAt.new _ _ _).drew
       have pb : Below w.heap.size w W7 := by rw [← hW7]; exact (R6.out.2.2.2.alloc R6.out.2.2.2.size _).drew
       have R7 := hid (And.intro p1 (And.intro p2 (And.intro p3 pb)))
       obtain ⟨a1, a2, a3, a4, a5, a6⟩ := zaa p1
       obtain ⟨b1, b2, b3, b4, b5, b6⟩ := zaa p3
       clear p1 p2 p3 pb
       go_wp2_with fail
       clear a1 a2 a3 a4 a5 a6 b1 b2 b3 b4 b5 b6 hW7
       refine (zjc (.slice (some ⟨g, off, none⟩) i cap) (l.take i) mb ch part _ (HV.out.run R7.out.2.2.2)).mono ?_
       rintro e w2 ⟨⟨n, rfl, hn⟩, hb2⟩
       have R8 := hid (And.intro (R7.out.1.run hb2) (And.intro (R7.out.2.1.run hb2) (And.intro (R7.out.2.2.1.run hb2) (R7.out.2.2.2.trans (hb2.mono R7.out.2.2.2.size)))))
       clear hb2 R7 R6
       by_cases hn0 : 0 ≤ n
       · have h7 := hid (show 7 = r from by
          have h9 := hq.out
          rw [show (l.take i).any (fun q => decide (q.ch = ch ∧ q.part = part)) = true from by rw [← hn]; simpa using hn0, if_pos rfl] at h9
          exact h9)
         clear hn
         go_wp2
         go_ret
         exact ⟨zab h7.out, R8.out.2.2.2⟩
       have h7 := hid (show (if (l.take i).any (fun q => overB (xs.map (·.1)) q ⟨ch, part, prof, uni, (an : Int), phase, cable⟩) then 10 else 0) = r from by
         have h9 := hq.out
         rw [show (l.take i).any (fun q => decide (q.ch = ch ∧ q.part = part)) = false from by rw [← hn]; simpa using hn0, if_neg (by simp)] at h9
         exact h9)
       clear hn
       have D := hid (zkx (.slice (some ⟨g, off, none⟩) i cap) (l.take i) mb xs uni w2 (HV.out.run R8.out.2.2.2) (HM.out.run R8.out.2.2.2) HG.out)
       obtain ⟨a1, a2, a3, a4, a5, a6⟩ := zaa R8.out.1
       obtain ⟨b1, b2, b3, b4, b5, b6⟩ := zaa R8.out.2.2.1
       go_wp2_with fail
       refine D.out.mono ?_
       rintro e w3 ⟨⟨F, rfl, hF⟩, hb3⟩
       have R9 := hid (And.intro (R8.out.1.run hb3) (And.intro (R8.out.2.1.run hb3) (R8.out.2.2.2.trans (hb3.mono R8.out.2.2.2.size))))
       have HFS := hid hF
       clear hb3 hF a1 a2 a3 a4 a5 a6 b1 b2 b3 b4 b5 b6 D R8
       go_wp2_with fail
       rw [run_storeCells_new w3 408 C (cellsI F) (by rw [zbb]; exact (zero_of_info Tryz.info_univ).2) (by rw [HC.out, zbb, zbb]) (zg1 F)]
       obtain ⟨W9, hW9⟩ : ∃ W, w3.alloc (.cells (cellsI F) 408) = W := ⟨_, rfl⟩
       have p1 : RowAt W9 (w.heap.size + 1) 173 #[.int .i64 ch, .int .i64 part, .string prof, .int .i64 uni, .int .i64 (an : Int), .int .i64 phase, .string cable] := by rw [← hW9]; exact R9.out.1.alloc _
       have p2 : RowAt W9 kp 89 #[.string nm, .int .i64 (nf : Int), .int .i64 wt, .slice fa fn fc] := by rw [← hW9]; exact R9.out.2.1.alloc _
       have p3 : SlotsAt W9 w3.heap.size F := by rw [← hW9]; exact RowAt.new _ _ _
       have pb : Below w.heap.size w W9 := by rw [← hW9]; exact R9.out.2.2.alloc R9.out.2.2.size _
       have HA := hid (And.intro p3 pb)
       obtain ⟨a1, a2, a3, a4, a5, a6⟩ := zaa p1
       obtain ⟨b1, b2, b3, b4, b5, b6⟩ := zaa p2
       have kw : IntKind.i64.wrap ((an : Int) + (nf : Int)) = (an : Int) + (nf : Int) := IntWalk.i64_in _ (by omega)
       have n1 : (an : Int) ≤ (an : Int) + (nf : Int) := by omega
       have n2 : (an : Int) + (nf : Int) ≤ 513 := by omega
       have n3 : 0 ≤ (an : Int) := by omega
       have n4 : ¬ 513 = an := by omega
       have n5 : ((an : Int) + (nf : Int)).toNat = an + nf := by omega
       have n6 : an + nf - an = nf := by omega
       have C9 := hid (zd8 348 #[] (fun x => decide (0 < x)) (.slice (some ⟨w3.heap.size, an, none⟩) nf (513 - an)) (spanL F an nf) W9 (zhr p3 (by omega) (by omega)) zjy (fun d _ W _ => zil d W))
       have HX9 := hid (zik (d := ⟨ch, part, prof, uni, (an : Int), phase, cable⟩) (n := nf) (a := an) HFS.out HG.out rfl HF.out (by omega) (by omega))
       clear p1 p2 p3 pb
       go_wp2_with fail
       refine C9.out.mono ?_
       rintro e w4 ⟨rfl, hb4⟩
       rw [HX9.out]
       have HB9 := hid (HA.out.2.trans (hb4.mono HA.out.2.size))
       clear hb4 a1 a2 a3 a4 a5 a6 b1 b2 b3 b4 b5 b6
       cases hov : (l.take i).any (fun q => overB (xs.map (·.1)) q ⟨ch, part, prof, uni, (an : Int), phase, cable⟩) with
       | true =>
         have h8 := hid (show 10 = r from by have h9 := h7.out; rw [hov] at h9; exact h9)
         clear hov
         go_wp2
         go_ret
         exact ⟨zab h8.out, HB9.out⟩
       | false =>
         have h8 := hid (show 0 = r from by have h9 := h7.out; rw [hov] at h9; exact h9)
         clear hov
         go_wp2
         go_ret
         exact ⟨zab h8.out, HB9.out⟩
theorem zg4 {ps : List ProfD} {l : List FixD} {k : Nat} (h : LoopB (fixE ps) l k) : ∀ q ∈ l.take k, GoodF ps q := by
 intro q hq
 obtain ⟨j, hj⟩ := List.getElem?_of_mem hq
 have hjk : j < k := by
  have := (List.getElem?_eq_some_iff.1 hj).1
  rw [List.length_take] at this
  omega
 rw [List.getElem?_take_of_lt hjk] at hj
 have h0 := h.2.2 j hjk
 rw [zb2 hj] at h0
 unfold fixE at h0
 refine zjq ?_
 by_cases e : aloneE ps q = 0
 · exact e
 rw [if_pos e] at h0; exact h0
theorem zpy (vf vp : Value) (ps : List ProfD) (l : List FixD) (w : World) (hf : ListAt 7 fixA w vf l) (hcap : CapOk vf) (hfo : ∀ d ∈ l, d.cable.size ≤ 9223372036854775806) (hp : RL 4 profA RProf w vp ps)
   (hd : ∀ (k : Nat) (d : ProfD), ps[k]? = some d → ((ps.take k).any fun q => decide (q.name = d.name)) = false) :
   Calls Tryz.prog 268 #[vf, vp] w fun e w' => e = .returned (.int .i64 (patchE ps l)) ∧ Below w.heap.size w w' := by
 obtain ⟨fa, fc, rfl⟩ := hf.shape
 obtain ⟨pa, pc, rfl⟩ := hp.shape
 have hml := hf.few
 have hpl := hp.few
 have C := hid (zxi fa l.length fc (.slice pa ps.length pc) ps w hp hd)
 have HF := hid hf
 have HO := hid hfo
 have HC := hid hcap
 obtain ⟨r, hr⟩ : ∃ r, patchE ps l = r := ⟨_, rfl⟩
 rw [hr]
 have HR := hid hr
 clear hf hp hcap hfo hd hr
 by_cases h1 : 32 < ps.length
 · have hq := hid (show 5 = r from by rw [← HR.out, patchE, if_pos (.inl h1)])
   have h1i : (32 : Int) < (ps.length : Int) := by omega
   go_enter Tryz.func268, Tryz.ntmps268
   go_wp2
   go_ret
   exact ⟨zab hq.out, Below.refl _ _⟩
 by_cases h2 : 64 < l.length
 · have hq := hid (show 5 = r from by rw [← HR.out, patchE, if_pos (.inr h2)])
   have h1i : ¬ (32 : Int) < (ps.length : Int) := by omega
   have h2i : (64 : Int) < (l.length : Int) := by omega
   go_enter Tryz.func268, Tryz.ntmps268
   go_wp2
   go_ret
   exact ⟨zab hq.out, Below.refl _ _⟩
 have HE := hid (show allB (fixE ps) l = r from by rw [← HR.out, patchE, if_neg (by omega)])
 have h1i : ¬ (32 : Int) < (ps.length : Int) := by omega
 have h2i : ¬ (64 : Int) < (l.length : Int) := by omega
 go_enter Tryz.func268, Tryz.ntmps268
 go_wp2_with fail
 refine C.out.mono ?_
 rintro e w1 ⟨⟨mb, xs, rfl, hm, hxs, hx⟩, hb1⟩
 have r0 : RowAt (w1.alloc (.cells #[.slice fa l.length fc, .map (some mb)] 382)) w1.heap.size 382 #[.slice fa l.length fc, .map (some mb)] := RowAt.new _ _ _
 have b0 : Below w1.heap.size w1 (w1.alloc (.cells #[.slice fa l.length fc, .map (some mb)] 382)) := bel
 have H0 := hid (And.intro r0 (And.intro b0 hb1))
 have HM := hid (And.intro hm (And.intro hxs hx))
 clear r0 b0 hb1 hm hxs hx C
 go_wp2
 rename World => wh
 go_loopw [6, 7, 21] (fun _ _ i wr => ∃ k : Nat, k ≤ l.length ∧ i = .int .i64 k ∧ Hid (LoopB (fixE ps) l k ∧ RowAt wr wh.heap.size 382 #[.slice fa l.length fc, .map (some mb)] ∧ Below wh.heap.size wh wr)) (fun _ _ i _ => l.length - (intOf i).toNat)
 case atStart => exact ⟨0, Nat.zero_le _, rfl, hid ⟨zam _ _, H0.out.1, H0.out.2.1⟩⟩
 case round =>
   obtain ⟨k, hk, rfl, hh⟩ := hrel
   have hbw : Below w.heap.size w wr := H0.out.2.2.trans (hh.out.2.2.mono H0.out.2.2.size)
   by_cases hlt : k < l.length
   · have hlt3 : (k : Int) < (l.length : Int) := by omega
     obtain ⟨d, hd⟩ : ∃ d, l[k]? = some d := ⟨_, List.getElem?_eq_getElem hlt⟩
     have D := hid (zu9 (.slice fa l.length fc) l k mb d xs wr (HF.out.run hbw) HC.out hd (HM.out.1.run hh.out.2.2) (by rw [HM.out.2.1]; exact zg4 hh.out.1) (HO.out d (List.mem_of_getElem? hd)) (fun x hx => ⟨_, HM.out.2.2 x hx⟩))
     rw [HM.out.2.1] at D
     have HD := hid hd
     obtain ⟨x1, x2, x3, x4, x5, x6⟩ := zaa hh.out.2.1
     obtain ⟨c, hc⟩ : ∃ c, fixE ps (l.take k) d = c := ⟨_, rfl⟩
     rw [hc] at D
     have HCC := hid hc
     clear hd hc hk
     go_wp2_with fail
     refine D.out.mono ?_
     rintro e w2 ⟨rfl, hb2⟩
     have HB2 := hid (And.intro (hh.out.2.1.run hb2) (hh.out.2.2.trans (hb2.mono hh.out.2.2.size)))
     clear hb2 x1 x2 x3 x4 x5 x6
     by_cases hc0 : c = 0
     · subst hc0
       have hn := hid (zah hh.out.1 HD.out HCC.out)
       go_wp2
       go_roundw
       case rel => exact ⟨k + 1, by omega, by go_num, hid ⟨hn.out, HB2.out.1, HB2.out.2⟩⟩
       case measure => simp [intOf]; omega
     have hc1 : (c != 0) = true := by simpa using hc0
     have hq := hid (show c = r from by rw [← HE.out]; exact (zad hh.out.1 HD.out HCC.out hc0).symm)
     go_wp2
     go_ret
     exact ⟨zab hq.out, H0.out.2.2.trans (HB2.out.2.mono H0.out.2.2.size)⟩
   obtain rfl : k = l.length := by omega
   have hq := hid (show 0 = r from by rw [← HE.out]; exact (zan hh.out.1).symm)
   go_wp2
   go_ret
   exact ⟨zab hq.out, hbw⟩
theorem zvy (vf vp : Value) (ps : List ProfD) (l : List FixD) (w : World) (hf : ListAt 7 fixA w vf l) (hfo : ∀ d ∈ l, d.cable.size ≤ 9223372036854775806) (hp : RL 4 profA RProf w vp ps) :
   Calls Tryz.prog 211 #[vf, vp] w fun e w' => e = .returned (.int .i64 (patchE ps l)) ∧ Below w.heap.size w w' := by
 have HP := hid hp
 obtain ⟨fa, fc, rfl⟩ := hf.shape
 obtain ⟨pa, pc, rfl⟩ := hp.shape
 have hml := hf.few
 have hpl := hp.few
 have HF := hid hf
 have HO := hid hfo
 obtain ⟨r, hr⟩ : ∃ r, patchE ps l = r := ⟨_, rfl⟩
 rw [hr]
 have HR := hid hr
 clear hf hp hfo hr
 by_cases h1 : 32 < ps.length
 · have hq := hid (show 5 = r from by rw [← HR.out, patchE, if_pos (.inl h1)])
   have h1i : (32 : Int) < (ps.length : Int) := by omega
   go_enter Tryz.func211, Tryz.ntmps211
   go_wp2
   go_ret
   exact ⟨zab hq.out, Below.refl _ _⟩
 by_cases h2 : 64 < l.length
 · have hq := hid (show 5 = r from by rw [← HR.out, patchE, if_pos (.inr h2)])
   have h1i : ¬ (32 : Int) < (ps.length : Int) := by omega
   have h2i : (64 : Int) < (l.length : Int) := by omega
   go_enter Tryz.func211, Tryz.ntmps211
   go_wp2
   go_ret
   exact ⟨zab hq.out, Below.refl _ _⟩
 have HE := hid (show allB (fixE ps) l = r from by rw [← HR.out, patchE, if_neg (by omega)])
 have h1i : ¬ (32 : Int) < (ps.length : Int) := by omega
 have h2i : ¬ (64 : Int) < (l.length : Int) := by omega
 go_enter Tryz.func211, Tryz.ntmps211
 go_wp2
 go_loopw [5, 6, 7, 8] (fun i _ _ _ wr => ∃ k : Nat, k ≤ l.length ∧ i = .int .i64 k ∧ Hid (LoopB (fixE ps) l k ∧ Below w.heap.size w wr)) (fun i _ _ _ _ => l.length - (intOf i).toNat)
 case atStart => exact ⟨0, Nat.zero_le _, rfl, hid ⟨zam _ _, Below.refl _ _⟩⟩
 case round =>
   obtain ⟨k, hk, rfl, hh⟩ := hrel
   by_cases hlt : k < l.length
   · have hlt3 : (k : Int) < (l.length : Int) := by omega
     obtain ⟨d, hd⟩ : ∃ d, l[k]? = some d := ⟨_, List.getElem?_eq_getElem hlt⟩
     obtain ⟨g, off, cap', he, hg0, hc⟩ := HF.out.at_ (by decide) hd
     cases he
     have HCC := hid hc
     have de0 : wr.cell? ⟨g, off + k * 7, none⟩ = some (.int .i64 d.ch) := hc wr hh.out.2 0 (by decide)
     have de1 : wr.cell? ⟨g, off + k * 7 + 1, none⟩ = some (.int .i64 d.part) := hc wr hh.out.2 1 (by decide)
     have de2 : wr.cell? ⟨g, off + k * 7 + 2, none⟩ = some (.string d.prof) := hc wr hh.out.2 2 (by decide)
     have de3 : wr.cell? ⟨g, off + k * 7 + 3, none⟩ = some (.int .i64 d.uni) := hc wr hh.out.2 3 (by decide)
     have de4 : wr.cell? ⟨g, off + k * 7 + 4, none⟩ = some (.int .i64 d.addr) := hc wr hh.out.2 4 (by decide)
     have de5 : wr.cell? ⟨g, off + k * 7 + 5, none⟩ = some (.int .i64 d.phase) := hc wr hh.out.2 5 (by decide)
     have de6 : wr.cell? ⟨g, off + k * 7 + 6, none⟩ = some (.string d.cable) := hc wr hh.out.2 6 (by decide)
     have D := hid (zpi _ ps d wr (HP.out.run zap hh.out.2) (HO.out d (List.mem_of_getElem? hd)))
     simp only [fixA] at D
     have HD := hid hd
     have HG := hid (zg4 hh.out.1)
     obtain ⟨c, hc0⟩ : ∃ c, aloneE ps d = c := ⟨_, rfl⟩
     rw [hc0] at D
     have HA := hid hc0
     clear hd hc hk hc0
     go_wp2_with fail
     refine D.out.mono ?_
     rintro e w2 ⟨rfl, hb2⟩
     have HB2 := hid (hh.out.2.trans (hb2.mono hh.out.2.size))
     clear hb2 de0 de1 de2 de3 de4 de5 de6
     by_cases hz : c = 0
     · subst hz
       have hgd := hid (zjq HA.out)
       rename World => wu
       rename World => wv
       go_wp2
       go_loopw [7] (fun i wr => ∃ j : Nat, j ≤ k ∧ i = .int .i64 j ∧ Hid ((l.take j).any (fun q => decide (q.ch = d.ch ∧ q.part = d.part)) = false ∧ Below w.heap.size w wr)) (fun i _ => k - (intOf i).toNat)
       case atStart => exact ⟨0, Nat.zero_le _, rfl, hid ⟨rfl, HB2.out⟩⟩
       case round =>
        obtain ⟨j, hj, rfl, hi⟩ := hrel
        by_cases hjk : j < k
        · have hjk3 : (j : Int) < (k : Int) := by omega
          have hjl : (j : Int) < (l.length : Int) := by omega
          obtain ⟨q, hq⟩ : ∃ q, l[j]? = some q := ⟨_, List.getElem?_eq_getElem (by omega)⟩
          obtain ⟨g2, off2, cap2, he2, hg2, hc2⟩ := HF.out.at_ (by decide) hq
          have he3 : g2 = g ∧ off2 = off := by simp only [Value.slice.injEq, Option.some.injEq, Addr.mk.injEq] at he2; exact ⟨he2.1.1.symm, he2.1.2.1.symm⟩
          obtain ⟨rfl, rfl⟩ := he3
          have f0 : wr.cell? ⟨g2, off2 + j * 7, none⟩ = some (.int .i64 q.ch) := hc2 wr hi.out.2 0 (by decide)
          have f1 : wr.cell? ⟨g2, off2 + j * 7 + 1, none⟩ = some (.int .i64 q.part) := hc2 wr hi.out.2 1 (by decide)
          have f2 : wr.cell? ⟨g2, off2 + k * 7, none⟩ = some (.int .i64 d.ch) := HCC.out wr hi.out.2 0 (by decide)
          have f3 : wr.cell? ⟨g2, off2 + k * 7 + 1, none⟩ = some (.int .i64 d.part) := HCC.out wr hi.out.2 1 (by decide)
          have HQ := hid hq
          clear hq hc2 he2
          by_cases t1 : q.ch = d.ch ∧ q.part = d.part
          · have hs := hid (show 7 = r from by
              have ha : (l.take k).any (fun q => decide (q.ch = d.ch ∧ q.part = d.part)) = true := by
               rw [List.any_eq_true]
               exact ⟨q, List.mem_of_getElem? (i := j) (by rw [List.getElem?_take_of_lt hjk]; exact HQ.out), by simpa using t1⟩
              rw [← HE.out]
              exact (zad hh.out.1 HD.out (by rw [fixE, HA.out, if_neg (by decide), if_pos ha]) (by decide)).symm)
            have t2 : (q.ch == d.ch) = true := by simpa using t1.1
            have t3 : (q.part == d.part) = true := by simpa using t1.2
            clear t1
            go_wp2
            go_region
            all_goals
              go_wp2
              go_ret
              exact ⟨zab hs.out, by have := hi.out.2; exact bel⟩
          have hn := hid (show (l.take (j + 1)).any (fun q => decide (q.ch = d.ch ∧ q.part = d.part)) = false from by rw [zaf HQ.out, List.any_append, hi.out.1]; simpa using t1)
          by_cases t2 : q.ch = d.ch
          · have t2b : (q.ch == d.ch) = true := by simpa using t2
            have t3 : (q.part == d.part) = false := by simpa [t2] using t1
            clear t1 t2
            go_wp2
            go_region
            all_goals
              go_wp2
              go_roundw
              case rel => exact ⟨j + 1, by omega, by go_num, hid ⟨hn.out, by have := hi.out.2; exact bel⟩⟩
              case measure => simp [intOf]; omega
          have t2b : (q.ch == d.ch) = false := by simpa using t2
          clear t1 t2
          go_wp2
          go_region
          all_goals
            go_wp2
            go_roundw
            case rel => exact ⟨j + 1, by omega, by go_num, hid ⟨hn.out, by have := hi.out.2; exact bel⟩⟩
            case measure => simp [intOf]; omega
        obtain rfl : j = k := by omega
        have hno := hid hi.out.1
        rename World => wx
        go_wp2
        go_loopw [8] (fun i wr => ∃ m : Nat, m ≤ j ∧ i = .int .i64 m ∧ Hid ((l.take m).any (fun q => overB ps q d) = false ∧ Below w.heap.size w wr)) (fun i _ => j - (intOf i).toNat)
        case atStart => exact ⟨0, Nat.zero_le _, rfl, hid ⟨rfl, hi.out.2⟩⟩
        case round =>
          obtain ⟨m, hm, rfl, hi3⟩ := hrel
          by_cases hmk : m < j
          · have hmk3 : (m : Int) < (j : Int) := by omega
            have hml3 : (m : Int) < (l.length : Int) := by omega
            obtain ⟨q, hq⟩ : ∃ q, l[m]? = some q := ⟨_, List.getElem?_eq_getElem (by omega)⟩
            obtain ⟨g2, off2, cap2, he2, hg2, hc2⟩ := HF.out.at_ (by decide) hq
            have he3 : g2 = g ∧ off2 = off := by simp only [Value.slice.injEq, Option.some.injEq, Addr.mk.injEq] at he2; exact ⟨he2.1.1.symm, he2.1.2.1.symm⟩
            obtain ⟨rfl, rfl⟩ := he3
            have HK := hid (show ∀ W, Below wr.heap.size wr W → W.cell? ⟨g2, off2 + m * 7, none⟩ = some (.int .i64 q.ch) ∧ W.cell? ⟨g2, off2 + m * 7 + 1, none⟩ = some (.int .i64 q.part) ∧ W.cell? ⟨g2, off2 + m * 7 + 2, none⟩ = some (.string q.prof) ∧ W.cell? ⟨g2, off2 + m * 7 + 3, none⟩ = some (.int .i64 q.uni) ∧ W.cell? ⟨g2, off2 + m * 7 + 4, none⟩ = some (.int .i64 q.addr) ∧ W.cell? ⟨g2, off2 + m * 7 + 5, none⟩ = some (.int .i64 q.phase) ∧ W.cell? ⟨g2, off2 + m * 7 + 6, none⟩ = some (.string q.cable) ∧ W.cell? ⟨g2, off2 + j * 7, none⟩ = some (.int .i64 d.ch) ∧ W.cell? ⟨g2, off2 + j * 7 + 1, none⟩ = some (.int .i64 d.part) ∧ W.cell? ⟨g2, off2 + j * 7 + 2, none⟩ = some (.string d.prof) ∧ W.cell? ⟨g2, off2 + j * 7 + 3, none⟩ = some (.int .i64 d.uni) ∧ W.cell? ⟨g2, off2 + j * 7 + 4, none⟩ = some (.int .i64 d.addr) ∧ W.cell? ⟨g2, off2 + j * 7 + 5, none⟩ = some (.int .i64 d.phase) ∧ W.cell? ⟨g2, off2 + j * 7 + 6, none⟩ = some (.string d.cable) from fun W hW => by
              have hb := hi3.out.2.trans (hW.mono hi3.out.2.size)
              exact ⟨hc2 W hb 0 (by decide), hc2 W hb 1 (by decide), hc2 W hb 2 (by decide), hc2 W hb 3 (by decide), hc2 W hb 4 (by decide), hc2 W hb 5 (by decide), hc2 W hb 6 (by decide), HCC.out W hb 0 (by decide), HCC.out W hb 1 (by decide), HCC.out W hb 2 (by decide), HCC.out W hb 3 (by decide), HCC.out W hb 4 (by decide), HCC.out W hb 5 (by decide), HCC.out W hb 6 (by decide)⟩)
            have hqm : q ∈ l.take j := List.mem_of_getElem? (i := m) (by rw [List.getElem?_take_of_lt hmk]; exact hq)
            have CO := hid (fun (W : World) (hb : Below wr.heap.size wr W) => zow (.slice pa ps.length pc) ps q d W (HP.out.run zap (hi3.out.2.trans (hb.mono hi3.out.2.size))) (HG.out q hqm) hgd.out)
            obtain ⟨ov, hov⟩ : ∃ o, overB ps q d = o := ⟨_, rfl⟩
            rw [hov] at CO
            simp only [fixA] at CO
            have HOV := hid hov
            have HQM := hid (And.intro hq hqm)
            clear hov hq hc2 he2 hqm
            cases ov with
            | true =>
              have hs := hid (show 10 = r from by
               have ha : (l.take j).any (fun q => overB ps q d) = true := by
                rw [List.any_eq_true]
                exact ⟨q, HQM.out.2, HOV.out⟩
               rw [← HE.out]
               exact (zad hh.out.1 HD.out (by rw [fixE, HA.out, if_neg (by decide), if_neg (by rw [hno.out]; decide), if_pos ha]) (by decide)).symm)
              go_wp2
              refine wp_region_noPanic ?_
              refine wp_region_held_drew (S := (fun w' => w'.cell? ⟨g2, off2 + m * 7, none⟩ = some (.int .i64 q.ch) ∧ w'.cell? ⟨g2, off2 + m * 7 + 1, none⟩ = some (.int .i64 q.part) ∧ w'.cell? ⟨g2, off2 + m * 7 + 2, none⟩ = some (.string q.prof) ∧ w'.cell? ⟨g2, off2 + m * 7 + 3, none⟩ = some (.int .i64 q.uni) ∧ w'.cell? ⟨g2, off2 + m * 7 + 4, none⟩ = some (.int .i64 q.addr) ∧ w'.cell? ⟨g2, off2 + m * 7 + 5, none⟩ = some (.int .i64 q.phase) ∧ w'.cell? ⟨g2, off2 + m * 7 + 6, none⟩ = some (.string q.cable) ∧ w'.cell? ⟨g2, off2 + j * 7, none⟩ = some (.int .i64 d.ch) ∧ w'.cell? ⟨g2, off2 + j * 7 + 1, none⟩ = some (.int .i64 d.part) ∧ w'.cell? ⟨g2, off2 + j * 7 + 2, none⟩ = some (.string d.prof) ∧ w'.cell? ⟨g2, off2 + j * 7 + 3, none⟩ = some (.int .i64 d.uni) ∧ w'.cell? ⟨g2, off2 + j * 7 + 4, none⟩ = some (.int .i64 d.addr) ∧ w'.cell? ⟨g2, off2 + j * 7 + 5, none⟩ = some (.int .i64 d.phase) ∧ w'.cell? ⟨g2, off2 + j * 7 + 6, none⟩ = some (.string d.cable))) (by kernel_rfl) ?_ (fun hHeld => ?_)
              · exact HK.out _ (Below.refl _ _).drew
              refine tk 0 ?_
              refine tk 1 ?_
              refine tk 2 ?_
              refine tk 3 ?_
              refine tk 4 ?_
              refine tk 5 ?_
              refine tk 6 ?_
              refine tk 7 ?_
              refine tk 8 ?_
              refine wpAnyH_ready (rs := [9]) (by kernel_rfl) (by simp) ?_
              refine AllReadyH.cons (o := _) rfl (fun K hK => ?_) AllReadyH.nil
              go_simp
              (go_at_call 280; refine (CO.out _ (Below.refl _ _).drew).mono ?_; rintro e w9 ⟨rfl, hb9⟩; replace hb9 := zd0 hb9)
              refine hK.out _ _ ?_ (fun hHeld => ?_)
              · exact HK.out _ hb9
              clear hK K
              (try simp only [Act.put, List.setIfInBounds_toArray, List.set_cons_zero, List.set_cons_succ, List.getElem_toArray, List.getElem_cons_succ, List.getElem_cons_zero])
              refine wpAnyH_done (by kernel_rfl) ?_ _
              refine NoPanic.normal ?_
              go_wp2
              go_ret
              exact ⟨zab hs.out, hi3.out.2.trans (hb9.mono hi3.out.2.size)⟩
            | false =>
              have hn := hid (show (l.take (m + 1)).any (fun q => overB ps q d) = false from by rw [zaf HQM.out.1, List.any_append, hi3.out.1]; simpa using HOV.out)
              go_wp2
              refine wp_region_noPanic ?_
              refine wp_region_held_drew (S := (fun w' => w'.cell? ⟨g2, off2 + m * 7, none⟩ = some (.int .i64 q.ch) ∧ w'.cell? ⟨g2, off2 + m * 7 + 1, none⟩ = some (.int .i64 q.part) ∧ w'.cell? ⟨g2, off2 + m * 7 + 2, none⟩ = some (.string q.prof) ∧ w'.cell? ⟨g2, off2 + m * 7 + 3, none⟩ = some (.int .i64 q.uni) ∧ w'.cell? ⟨g2, off2 + m * 7 + 4, none⟩ = some (.int .i64 q.addr) ∧ w'.cell? ⟨g2, off2 + m * 7 + 5, none⟩ = some (.int .i64 q.phase) ∧ w'.cell? ⟨g2, off2 + m * 7 + 6, none⟩ = some (.string q.cable) ∧ w'.cell? ⟨g2, off2 + j * 7, none⟩ = some (.int .i64 d.ch) ∧ w'.cell? ⟨g2, off2 + j * 7 + 1, none⟩ = some (.int .i64 d.part) ∧ w'.cell? ⟨g2, off2 + j * 7 + 2, none⟩ = some (.string d.prof) ∧ w'.cell? ⟨g2, off2 + j * 7 + 3, none⟩ = some (.int .i64 d.uni) ∧ w'.cell? ⟨g2, off2 + j * 7 + 4, none⟩ = some (.int .i64 d.addr) ∧ w'.cell? ⟨g2, off2 + j * 7 + 5, none⟩ = some (.int .i64 d.phase) ∧ w'.cell? ⟨g2, off2 + j * 7 + 6, none⟩ = some (.string d.cable))) (by kernel_rfl) ?_ (fun hHeld => ?_)
              · exact HK.out _ (Below.refl _ _).drew
              refine tk 0 ?_
              refine tk 1 ?_
              refine tk 2 ?_
              refine tk 3 ?_
              refine tk 4 ?_
              refine tk 5 ?_
              refine tk 6 ?_
              refine tk 7 ?_
              refine tk 8 ?_
              refine wpAnyH_ready (rs := [9]) (by kernel_rfl) (by simp) ?_
              refine AllReadyH.cons (o := _) rfl (fun K hK => ?_) AllReadyH.nil
              go_simp
              (go_at_call 280; refine (CO.out _ (Below.refl _ _).drew).mono ?_; rintro e w9 ⟨rfl, hb9⟩; replace hb9 := zd0 hb9)
              refine hK.out _ _ ?_ (fun hHeld => ?_)
              · exact HK.out _ hb9
              clear hK K
              (try simp only [Act.put, List.setIfInBounds_toArray, List.set_cons_zero, List.set_cons_succ, List.getElem_toArray, List.getElem_cons_succ, List.getElem_cons_zero])
              refine wpAnyH_done (by kernel_rfl) ?_ _
              refine NoPanic.normal ?_
              go_wp2
              go_roundw
              case rel => exact ⟨m + 1, by omega, by go_num, hid ⟨hn.out, hi3.out.2.trans (hb9.mono hi3.out.2.size)⟩⟩
              case measure => simp [intOf]; omega
          obtain rfl : m = j := by omega
          have hn := hid (zah hh.out.1 HD.out (by rw [fixE, HA.out, if_neg (by decide), if_neg (by rw [hno.out]; decide), if_neg (by rw [hi3.out.1]; decide)]))
          go_wp2
          go_roundw
          case rel => exact ⟨m + 1, by omega, by go_num, hid ⟨hn.out, hi3.out.2⟩⟩
          case measure => simp [intOf]; omega
     have hz1 : (c != 0) = true := by simpa using hz
     have hs := hid (show c = r from by rw [← HE.out]; exact (zad hh.out.1 HD.out (by rw [fixE, HA.out, if_pos hz]) hz).symm)
     go_wp2
     go_ret
     exact ⟨zab hs.out, HB2.out⟩
   obtain rfl : k = l.length := by omega
   have hq := hid (show 0 = r from by rw [← HE.out]; exact (zan hh.out.1).symm)
   go_wp2
   go_ret
   exact ⟨zab hq.out, hh.out.2⟩
theorem zq3 (s : ShowD) (v : ShowV) (w : World) (h : ShowAt w v s) :
  Calls Tryz.prog 43 #[.agg (showA s v)] w fun e w' => e = .returned (.int .i64 (showE s)) ∧ Below w.heap.size w w' :=
 zrv s v w h (fun h0 W hW => zpy _ _ _ _ W (h.fixs.run hW) h.capFix (fun d hd => (h.fixOk d hd).2) (h.profs.run zap hW) (fun k d hd => (zoi h0 k d hd).1))
theorem zv1 (s : ShowD) (v : ShowV) (w : World) (h : ShowAt w v s) :
  Calls Tryz.prog 45 #[.agg (showA s v)] w fun e w' => e = .returned (.int .i64 (showE s)) ∧ Below w.heap.size w w' :=
 zu4 s v w h (fun W hW => zvy _ _ _ _ W (h.fixs.run hW) (fun d hd => (h.fixOk d hd).2) (h.profs.run zap hW))
def sumStep (x : Nat × Nat) (c : UInt8) : Nat × Nat := ((x.1 + c.toNat) % 255, (x.2 + (x.1 + c.toNat) % 255) % 255)
def sum2 (l : List UInt8) : Nat × Nat := l.foldl sumStep (0, 0)
def sumN (l : List UInt8) : Nat := (sum2 l).2 * 256 + (sum2 l).1
def wordB (n : Nat) : List UInt8 := [UInt8.ofNat (n / 256), UInt8.ofNat n]
theorem zkp (l : List UInt8) (c : UInt8) : sum2 (l ++ [c]) = sumStep (sum2 l) c := by simp [sum2]
theorem zgw (l : List UInt8) : (sum2 l).1 < 255 ∧ (sum2 l).2 < 255 := by
 suffices h : ∀ (l : List UInt8) (x : Nat × Nat), x.1 < 255 ∧ x.2 < 255 → (l.foldl sumStep x).1 < 255 ∧ (l.foldl sumStep x).2 < 255 from h l (0, 0) (by simp)
 intro l
 induction l with
 | nil => intro x h; exact h
 | cons c l ih =>
   intro x h
   exact ih _ ⟨Nat.mod_lt _ (by decide), Nat.mod_lt _ (by decide)⟩
theorem ze7 (l : List UInt8) : sumN l < 65536 := by have := zgw l; unfold sumN; omega
theorem zdx (n : Nat) (h : n < 100000000) : wrap64 (n : Int) = (n : Int) := by
 unfold wrap64
 omega
theorem zid (a c : Nat) (h : a + c < 1000) : (IntKind.u64.wrap ((a : Int) + (c : Int))).tmod 255 = (((a + c) % 255 : Nat) : Int) := by
 rw [IntWalk.u64_in _ (by omega), Int.tmod_eq_emod_of_nonneg (by omega)]
 omega
theorem zrs (b : Nat) (a : Nat) (h : b < 72057594037927936) (ha : a < 256) : bits BinOp.or .u64 ((b : Int) * 256) (a : Int) = ((b * 256 + a : Nat) : Int) := by
 have h1 : ((b : Int) * 256) = ((b * 256 : Nat) : Int) := by omega
 rw [h1, bits_or_u64_nat _ _ (by omega) (by omega)]
 have h2 := Nat.two_pow_add_eq_or_of_lt (i := 8) (b := a) (by omega) b
 rw [show b * 256 = 2 ^ 8 * b from by omega, ← h2]
theorem zeq (s : ByteArray) (w : World) (hs : s.size ≤ 1000000000) :
  Calls Tryz.prog 238 #[.string s] w fun e w' => e = .returned (.int .i64 (sumN s.data.toList : Nat)) ∧ w' = w := by
 have hs3 : (s.size : Int) ≤ 1000000000 := by omega
 go_enter Tryz.func238, Tryz.ntmps238
 go_wp2
 go_loopw [3, 4, 5, 8] (fun a b _ i wr => ∃ k : Nat, k ≤ s.size ∧ i = .int .i64 k ∧ a = .int .u64 ((sum2 (s.data.toList.take k)).1 : Nat) ∧ b = .int .u64 ((sum2 (s.data.toList.take k)).2 : Nat) ∧ wr = w) (fun _ _ _ i _ => s.size - (intOf i).toNat)
 case atStart => exact ⟨0, Nat.zero_le _, rfl, by simp [sum2], by simp [sum2], rfl⟩
 case round =>
  obtain ⟨k, hk, rfl, rfl, rfl, rfl⟩ := hrel
  have hlt := zgw (s.data.toList.take k)
  by_cases hlt2 : k < s.size
  · have hlt3 : (k : Int) < (s.size : Int) := by omega
    have hk0 : (0 : Int) ≤ (k : Int) := by omega
    have hts : s.data.toList.take (k + 1) = s.data.toList.take k ++ [s[k]] := by
     rw [List.take_succ_eq_append_getElem (by simpa using hlt2)]
     simp [ByteArray.getElem_eq_getElem_data]
    have hst : sum2 (s.data.toList.take (k + 1)) = sumStep (sum2 (s.data.toList.take k)) s[k] := by rw [hts, zkp]
    have hc := s[k].toNat_lt
    generalize sum2 (s.data.toList.take k) = ab at hlt hst ⊢
    obtain ⟨x, y⟩ := ab
    simp only at hlt ⊢
    have e1 : (IntKind.u64.wrap ((x : Int) + IntKind.u64.wrap (s[k].toNat : Int))).tmod 255 = (((x + s[k].toNat) % 255 : Nat) : Int) := by
     rw [IntWalk.u64_in (s[k].toNat : Int) (by omega)]
     exact zid _ _ (by omega)
    have e2 : (IntKind.u64.wrap ((y : Int) + (((x + s[k].toNat) % 255 : Nat) : Int))).tmod 255 = (((y + (x + s[k].toNat) % 255) % 255 : Nat) : Int) := zid _ _ (by omega)
    have HE := hid (And.intro e1 (And.intro e2 hst))
    clear e1 e2 hst hts hc
    go_wp2
    go_roundw
    case rel => exact ⟨k + 1, by omega, by go_num, by rw [HE.out.1, HE.out.2.2]; rfl, by rw [HE.out.1, HE.out.2.1, HE.out.2.2]; rfl, trivial⟩
    case measure => simp [intOf]; omega
  obtain rfl : k = s.size := by omega
  have hall : s.data.toList.take s.size = s.data.toList := by
    rw [show s.size = s.data.toList.length from (Array.length_toList (xs := s.data)).symm]
    exact List.take_length
  rw [hall] at hlt ⊢
  have ho := zrs (sum2 s.data.toList).2 (sum2 s.data.toList).1 (by omega) (by omega)
  have hw := zdx ((sum2 s.data.toList).2 * 256 + (sum2 s.data.toList).1) (by omega)
  have HO := hid (show wrap64 (bits BinOp.or .u64 (IntKind.u64.wrap (((sum2 s.data.toList).2 : Int) * 256)) ((sum2 s.data.toList).1 : Int)) = ((sumN s.data.toList : Nat) : Int) from by rw [IntWalk.u64_in _ (by omega), ho]; exact hw)
  clear ho hw hlt hall
  go_wp2
  go_ret
  exact ⟨by rw [HO.out]; rfl, rfl⟩
theorem zre (a b : UInt8) (W : World) : (convert 59 9 (.slice (some ⟨W.heap.size, 0, none⟩) 2 2)).run Tryz.prog (W.alloc (.cells #[.int .u8 (a.toNat : Int), .int .u8 (b.toNat : Int)] 5)) = .ok (.string (str [a, b])) (W.alloc (.cells #[.int .u8 (a.toNat : Int), .int .u8 (b.toNat : Int)] 5)) := by
 rw [← zdl]
 refine run_convert_bytes_arg _ 59 5 Tryz.underlying59 Tryz.underlying5 W.heap.size 0 2 2 _ (by simp) (fun i hi => ?_) 9 Tryz.underlying9
 have : i = 0 ∨ i = 1 := by omega
 rcases this with rfl | rfl <;> simp
theorem zgm (n : Nat) (w : World) (hn : n < 65536) :
  Calls Tryz.prog 237 #[.int .i64 (n : Int)] w fun e w' => e = .returned (.string (str (wordB n))) ∧ Below w.heap.size w w' := by
 have hcv := zre (UInt8.ofNat (n / 256)) (UInt8.ofNat n)
 have e1 : (((UInt8.ofNat (n / 256)).toNat : Nat) : Int) = (n : Int) / 256 := by simp; omega
 have e2 : (((UInt8.ofNat n).toNat : Nat) : Int) = (n : Int) % 256 := by simp
 rw [e1, e2] at hcv
 have hcv' : ∀ W : World, (convert 59 9 (.slice (some ⟨W.heap.size, 0, none⟩) 2 2)).run Tryz.prog (W.alloc (.cells #[.int .u8 ((n : Int) / 256), .int .u8 ((n : Int) % 256)] 5)) = .ok (.string (str (wordB n))) (W.alloc (.cells #[.int .u8 ((n : Int) / 256), .int .u8 ((n : Int) % 256)] 5)) := hcv
 clear hcv
 go_enter Tryz.func237, Tryz.ntmps237
 go_wp2
 go_ret
 exact ⟨rfl, bel⟩
end Go.Proofs.YtjeigphhepngmaaGreatDoor
