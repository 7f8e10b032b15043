/- -/
import Derived.Test.YtjeigphhepngmaaGreatDoorAv
import Derived.Deep.WholeRow
import Derived.Laws.CopyOwn
namespace Go.Proofs.YtjeigphhepngmaaGreatDoor
open Go.RowKit
open Go.Lib (hid)
set_option maxHeartbeats 8000000
set_option linter.unusedSimpArgs false
set_option maxRecDepth 100000
theorem zjg (s : ShowD) (v : ShowV) (w : World) (h : ShowAt w v s) : Calls Tryz.prog 12 #[.agg (showA s v)] w fun e w' => BoolPost w e w' := by
 obtain ⟨t, cs, ps, fs, gs, pls, ls, ss, es⟩ := s
 obtain ⟨v1, v2, v3, v4, v5, v6, v7, v8⟩ := v
 have HV1 := hid h.curves
 have HV2 := hid h.profs
 have HV3 := hid h.fixs
 have HV4 := hid h.grps
 have HV5 := hid h.pals
 have HV6 := hid h.lists
 have HV7 := hid h.subs
 have HV8 := hid h.effs
 simp only at HV1 HV2 HV3 HV4 HV5 HV6 HV7 HV8
 obtain ⟨a1, c1, rfl⟩ := HV1.out.shape
 have hml1 := HV1.out.few
 obtain ⟨a2, c2, rfl⟩ := HV2.out.shape
 have hml2 := HV2.out.few
 obtain ⟨a3, c3, rfl⟩ := HV3.out.shape
 have hml3 := HV3.out.few
 obtain ⟨a4, c4, rfl⟩ := HV4.out.shape
 have hml4 := HV4.out.few
 obtain ⟨a5, c5, rfl⟩ := HV5.out.shape
 have hml5 := HV5.out.few
 obtain ⟨a6, c6, rfl⟩ := HV6.out.shape
 have hml6 := HV6.out.few
 obtain ⟨a7, c7, rfl⟩ := HV7.out.shape
 have hml7 := HV7.out.few
 obtain ⟨a8, c8, rfl⟩ := HV8.out.shape
 have hml8 := HV8.out.few
 simp only [showA]
 obtain ⟨Z, hZ⟩ : ∃ Z, w.alloc (.cells #[.string t, .slice a1 cs.length c1, .slice a2 ps.length c2, .slice a3 fs.length c3, .slice a4 gs.length c4, .slice a5 pls.length c5, .slice a6 ls.length c6, .slice a7 ss.length c7, .slice a8 es.length c8] 31) = Z := ⟨_, rfl⟩
 have r0 : RowAt Z w.heap.size 31 #[.string t, .slice a1 cs.length c1, .slice a2 ps.length c2, .slice a3 fs.length c3, .slice a4 gs.length c4, .slice a5 pls.length c5, .slice a6 ls.length c6, .slice a7 ss.length c7, .slice a8 es.length c8] := by rw [← hZ]; exact RowAt.new _ _ _
 have hbz : Below w.heap.size w Z := by rw [← hZ]; exact bel
 have S0 := hid (And.intro r0 hbz)
 have K1 := hid (fun (W : World) (hW : Below w.heap.size w W) => ztf _ cs W (HV1.out.run zaz hW))
 have K2 := hid (fun (W : World) (hW : Below w.heap.size w W) => zrr a3 fs.length c3 _ ps W (HV2.out.run zap hW))
 have K3 := hid (fun (W : World) (hW : Below w.heap.size w W) => zlz _ gs W (HV4.out.run zbf hW))
 have K4 := hid (fun (W : World) (hW : Below w.heap.size w W) => zvz _ pls W (HV5.out.run zbe hW))
 have K5 := hid (fun (W : World) (hW : Below w.heap.size w W) => zny _ ss W (HV7.out.run zbm hW))
 have K6 := hid (fun (W : World) => zpz a8 es.length c8 W)
 obtain ⟨x1, x2, x3, x4, x5, x6⟩ := zaa r0
 clear h r0 hbz
 by_cases q0 : (100 : Int) < (t.size : Int)
 · go_enter Tryz.func12, Tryz.ntmps12
   go_wp2
   go_ret
   exact bp rfl S0.out.2
 by_cases q1 : (40 : Int) < (ps.length : Int)
 · go_enter Tryz.func12, Tryz.ntmps12
   go_wp2_with fail
   refine (K1.out _ S0.out.2).mono ?_
   rintro e w1 ⟨t1, rfl, hb1⟩
   have S1 := hid (And.intro (S0.out.1.run hb1) (S0.out.2.trans (hb1.mono S0.out.2.size)))
   obtain ⟨y1, y2, y3, y4, y5, y6⟩ := zaa S1.out.1
   clear hb1
   cases t1 with
   | true => go_wp2; go_ret; exact bp rfl S1.out.2
   | false => go_wp2; go_ret; exact bp rfl S1.out.2
 go_enter Tryz.func12, Tryz.ntmps12
 go_wp2_with fail
 refine (K1.out _ S0.out.2).mono ?_
 rintro e w1 ⟨t1, rfl, hb1⟩
 have S1 := hid (And.intro (S0.out.1.run hb1) (S0.out.2.trans (hb1.mono S0.out.2.size)))
 clear hb1 x1 x2 x3 x4 x5 x6
 obtain ⟨x1, x2, x3, x4, x5, x6⟩ := zaa S1.out.1
 cases t1 with
 | false => go_wp2; go_ret; exact bp rfl S1.out.2
 | true =>
   go_wp2_with fail
   refine (K2.out _ S1.out.2).mono ?_
   rintro e w2 ⟨t2, rfl, hb2⟩
   have S2 := hid (And.intro (S1.out.1.run hb2) (S1.out.2.trans (hb2.mono S1.out.2.size)))
   clear hb2 x1 x2 x3 x4 x5 x6
   obtain ⟨x1, x2, x3, x4, x5, x6⟩ := zaa S2.out.1
   cases t2 with
   | false => go_wp2; go_ret; exact bp rfl S2.out.2
   | true =>
     go_wp2_with fail
     refine (K3.out _ S2.out.2).mono ?_
     rintro e w3 ⟨t3, rfl, hb3⟩
     have S3 := hid (And.intro (S2.out.1.run hb3) (S2.out.2.trans (hb3.mono S2.out.2.size)))
     clear hb3 x1 x2 x3 x4 x5 x6
     obtain ⟨x1, x2, x3, x4, x5, x6⟩ := zaa S3.out.1
     cases t3 with
     | false => go_wp2; go_ret; exact bp rfl S3.out.2
     | true =>
       go_wp2_with fail
       refine (K4.out _ S3.out.2).mono ?_
       rintro e w4 ⟨t4, rfl, hb4⟩
       have S4 := hid (And.intro (S3.out.1.run hb4) (S3.out.2.trans (hb4.mono S3.out.2.size)))
       clear hb4 x1 x2 x3 x4 x5 x6
       obtain ⟨x1, x2, x3, x4, x5, x6⟩ := zaa S4.out.1
       cases t4 with
       | false => go_wp2; go_ret; exact bp rfl S4.out.2
       | true =>
         go_wp2_with fail
         refine (K5.out _ S4.out.2).mono ?_
         rintro e w5 ⟨t5, rfl, hb5⟩
         have S5 := hid (And.intro (S4.out.1.run hb5) (S4.out.2.trans (hb5.mono S4.out.2.size)))
         clear hb5 x1 x2 x3 x4 x5 x6
         obtain ⟨x1, x2, x3, x4, x5, x6⟩ := zaa S5.out.1
         cases t5 with
         | false => go_wp2; go_ret; exact bp rfl S5.out.2
         | true =>
           go_wp2_with fail
           refine (K6.out _).mono ?_
           rintro e w6 ⟨t6, rfl, hb6⟩
           have S6 := hid (And.intro (S5.out.1.run hb6) (S5.out.2.trans (hb6.mono S5.out.2.size)))
           clear hb6 x1 x2 x3 x4 x5 x6
           obtain ⟨x1, x2, x3, x4, x5, x6⟩ := zaa S6.out.1
           cases t6 with
           | false => go_wp2; go_ret; exact bp rfl S6.out.2
           | true =>
             go_wp2
             clear x1 x2 x3 x4 x5 x6
             rename World => wa
             go_loopw [3] (fun i wr => ∃ k : Nat, k ≤ ps.length ∧ i = .int .i64 k ∧ Hid (RowAt wr w.heap.size 31 #[.string t, .slice a1 cs.length c1, .slice a2 ps.length c2, .slice a3 fs.length c3, .slice a4 gs.length c4, .slice a5 pls.length c5, .slice a6 ls.length c6, .slice a7 ss.length c7, .slice a8 es.length c8] ∧ Below w.heap.size w wr)) (fun i _ => ps.length - (intOf i).toNat)
             case atStart => exact ⟨0, Nat.zero_le _, rfl, S6⟩
             case round =>
              obtain ⟨k, hk, rfl, hh⟩ := hrel
              obtain ⟨x1, x2, x3, x4, x5, x6⟩ := zaa hh.out.1
              by_cases hlt : k < ps.length
              · have hlt3 : (k : Int) < (ps.length : Int) := by omega
                obtain ⟨d, hd⟩ : ∃ d, ps[k]? = some d := ⟨_, List.getElem?_eq_getElem hlt⟩
                obtain ⟨y, g, off, cap', he, hg, hc⟩ := HV2.out.at_ (by decide) zap hd
                cases he
                have hcw := hc wr hh.out.2
                obtain ⟨ya, yc, e9⟩ := hcw.2.1.shape
                simp only at e9
                subst e9
                have e0 : wr.cell? ⟨g, off + k * 4, none⟩ = some (.string d.name) := hcw.1 0 (by decide)
                have e1 : wr.cell? ⟨g, off + k * 4 + 1, none⟩ = some (.int .i64 d.foot) := hcw.1 1 (by decide)
                have e2 : wr.cell? ⟨g, off + k * 4 + 2, none⟩ = some (.int .i64 d.watts) := hcw.1 2 (by decide)
                have e3 : wr.cell? ⟨g, off + k * 4 + 3, none⟩ = some (.slice ya d.feats.length yc) := hcw.1 3 (by decide)
                have C := hid (ztx d (.slice ya d.feats.length yc) wr hcw.2.1)
                simp only [profA] at C
                clear hd hc hcw hk
                go_wp2_with fail
                refine C.out.mono ?_
                rintro e w7 ⟨t7, rfl, hb7⟩
                have S7 := hid (And.intro (hh.out.1.run hb7) (hh.out.2.trans (hb7.mono hh.out.2.size)))
                clear hb7
                cases t7 with
                | false => go_wp2; go_ret; exact bp rfl S7.out.2
                | true =>
                  go_wp2
                  go_roundw
                  case rel => exact ⟨k + 1, by omega, by go_num, S7⟩
                  case measure => simp [intOf]; omega
              obtain rfl : k = ps.length := by omega
              go_wp2
              clear x1 x2 x3 x4 x5 x6
              rename World => wb
              go_loopw [4] (fun i wr => ∃ k : Nat, k ≤ ls.length ∧ i = .int .i64 k ∧ Hid (RowAt wr w.heap.size 31 #[.string t, .slice a1 cs.length c1, .slice a2 ps.length c2, .slice a3 fs.length c3, .slice a4 gs.length c4, .slice a5 pls.length c5, .slice a6 ls.length c6, .slice a7 ss.length c7, .slice a8 es.length c8] ∧ Below w.heap.size w wr)) (fun i _ => ls.length - (intOf i).toNat)
              case atStart => exact ⟨0, Nat.zero_le _, rfl, hh⟩
              case round =>
                obtain ⟨k, hk, rfl, hi⟩ := hrel
                obtain ⟨x1, x2, x3, x4, x5, x6⟩ := zaa hi.out.1
                by_cases hlt : k < ls.length
                · have hlt3 : (k : Int) < (ls.length : Int) := by omega
                  by_cases h10 : (k : Int) < 10
                  · obtain ⟨d, hd⟩ : ∃ d, ls[k]? = some d := ⟨_, List.getElem?_eq_getElem hlt⟩
                    obtain ⟨y, g, off, cap', he, hg, hc⟩ := HV6.out.at_ (by decide) zbz hd
                    cases he
                    have hcw := hc wr hi.out.2
                    obtain ⟨ya, yc, e9⟩ := hcw.2.shape
                    simp only at e9
                    subst e9
                    have e0 : wr.cell? ⟨g, off + k * 3, none⟩ = some (.int .i64 d.num) := hcw.1 0 (by decide)
                    have e1 : wr.cell? ⟨g, off + k * 3 + 1, none⟩ = some (.int .i64 d.pri) := hcw.1 1 (by decide)
                    have e2 : wr.cell? ⟨g, off + k * 3 + 2, none⟩ = some (.slice ya d.cues.length yc) := hcw.1 2 (by decide)
                    have C := hid (zwn d (.slice ya d.cues.length yc) wr hcw.2 (fun v W hv => zjb d v W hv))
                    simp only [lstA] at C
                    clear hd hc hcw hk
                    go_wp2_with fail
                    refine C.out.mono ?_
                    rintro e w7 ⟨t7, rfl, hb7⟩
                    have S7 := hid (And.intro (hi.out.1.run hb7) (hi.out.2.trans (hb7.mono hi.out.2.size)))
                    clear hb7
                    cases t7 with
                    | false => go_wp2; go_ret; exact bp rfl S7.out.2
                    | true =>
                      go_wp2
                      go_roundw
                      case rel => exact ⟨k + 1, by omega, by go_num, S7⟩
                      case measure => simp [intOf]; omega
                  skip
                  by_cases f1 : (ls.length : Int) ≤ 3
                  · exfalso; omega
                  by_cases f2 : (8 : Int) < (ls.length : Int)
                  · go_wp2
                    go_ret
                    exact bp rfl hi.out.2
                  exfalso; omega
                obtain rfl : k = ls.length := by omega
                by_cases f1 : (ls.length : Int) ≤ 3
                · go_wp2
                  go_ret
                  exact bp rfl hi.out.2
                by_cases f2 : (8 : Int) < (ls.length : Int)
                · go_wp2
                  go_ret
                  exact bp rfl hi.out.2
                go_wp2
                go_ret
                exact bp rfl hi.out.2
def GoodF (ps : List ProfD) (q : FixD) : Prop := ∃ p, profOf ps q.prof = some p ∧ 1 ≤ q.addr ∧ 1 ≤ p.foot ∧ q.addr + p.foot ≤ 513
theorem zjq {ps : List ProfD} {q : FixD} (h : aloneE ps q = 0) : GoodF ps q := by
 unfold aloneE at h
 split at h
 · cases h
 rename_i h1
 split at h
 · cases h
 cases hp : profOf ps q.prof with
 | none => rw [hp] at h; cases h
 | some p =>
   rw [hp] at h
   simp only at h
   split at h
   · cases h
   refine ⟨p, hp, ?_⟩
   simp [rangedB] at h1
   omega
def takB (ps : List ProfD) (u : Int) (l : List FixD) (a : Int) : Bool := l.any fun q => decide (q.uni = u ∧ q.addr ≤ a ∧ a < q.addr + footOf ps q)
def cellsI (F : Nat → Int) : Array Value := ((List.range 513).map fun c => Value.int .i64 (F c)).toArray
theorem ze2 (F : Nat → Int) {c : Nat} (h : c < 513) : (cellsI F)[c]? = some (.int .i64 (F c)) := by
 rw [cellsI, List.getElem?_toArray, List.getElem?_map, List.getElem?_range h, Option.map_some]
theorem zbb (F : Nat → Int) : (cellsI F).size = 513 := by rw [cellsI, List.size_toArray, List.length_map, List.length_range]
theorem zg1 (F : Nat → Int) : (cellsI F).all (·.oneCell') = true := by
 rw [Array.all_eq_true_iff_forall_mem]
 intro x hx
 rw [cellsI, List.mem_toArray, List.mem_map] at hx
 obtain ⟨c, _, rfl⟩ := hx
 rfl
theorem zpp (F F' : Nat → Int) (b : Int) {c : Nat} (h : c < 513) (hc : F' c = b) (ho : ∀ i, i ≠ c → F' i = F i) : (cellsI F).setIfInBounds c (.int .i64 b) = cellsI F' := by
 apply Array.ext_getElem?
 intro i
 rw [Array.getElem?_setIfInBounds]
 by_cases hi : c = i
 · subst hi
   rw [if_pos rfl, zbb, if_pos h, ze2 F' h, hc]
 rw [if_neg hi]
 by_cases h2 : i < 513
 · rw [ze2 F h2, ze2 F' h2, ho i (fun e => hi e.symm)]
 rw [Array.getElem?_eq_none (by rw [zbb]; omega), Array.getElem?_eq_none (by rw [zbb]; omega)]
def SlotsAt (w : World) (b : Nat) (F : Nat → Int) : Prop := RowAt w b 408 (cellsI F)
theorem SlotsAt.facts {w : World} {b : Nat} {F : Nat → Int} (h : SlotsAt w b F) : (∀ o, o < 513 → w.cell? ⟨b, o, none⟩ = some (.int .i64 (F o))) ∧ (∀ o, w.frozen? ⟨b, o, none⟩ = false) ∧ b < w.heap.size := by
 obtain ⟨h1, h2, h3, _⟩ := zaa h
 exact ⟨fun o ho => by rw [h1, ze2 F ho], h2, h3⟩
def setF (F : Nat → Int) (c : Nat) (v : Int) : Nat → Int := fun i => if i = c then v else F i
theorem SlotsAt.set {w : World} {b c : Nat} {F : Nat → Int} {v : Int} (h : SlotsAt w b F) (hc : c < 513) : SlotsAt (w.setCell ⟨b, c, none⟩ (.int .i64 v)) b (setF F c v) :=
 RowAt.set h (zpp F (setF F c v) v hc (by simp [setF]) (fun i hi => by simp [setF, hi]))
theorem Tryz.info_univ : (Tryz.prog.info? 408).map (fun i => (i.zero, i.size)) = some (some (.agg (cellsI fun _ => 0)), 513) := by kernel_rfl
theorem zlo : Hid (∃ C, C = cellsI (fun _ => 0) ∧ ∀ w, (zeroValue 408).run Tryz.prog w = .ok (.agg C) w) := hid ⟨_, rfl, (zero_of_info Tryz.info_univ).1⟩
theorem zuy {w : World} {g T : Nat} {old : Array Value} (cells : Array Value) (hg : RowAt w g T old) (hi : (Tryz.prog.info? T).map (·.size) = some cells.size) (ho : old.size = cells.size) (h1 : cells.all (·.oneCell') = true) :
   (storeCells ⟨g, 0, none⟩ cells.toList 0).run Tryz.prog w = .ok () (w.setRow g cells) := by
 have := run_storeVar_row (P := Tryz.prog) w g T T old cells hg hi ho h1
 cases hq : Tryz.prog.info? T with
 | none => simp [hq] at hi
 | some i =>
   have hs : cells.size = i.size := by simp [hq] at hi; omega
   simpa [storeVar, sizeOf, typeInfo, hq, Value.cells, hs] using this
def Says (ps : List ProfD) (u : Int) (l : List FixD) (F : Nat → Int) : Prop := ∀ a, a < 513 → decide (0 < F a) = takB ps u l (a : Int)
def SaysTo (ps : List ProfD) (u : Int) (l : List FixD) (q : FixD) (k : Nat) (F : Nat → Int) : Prop := ∀ a, a < 513 → decide (0 < F a) = (takB ps u l (a : Int) || decide (q.addr ≤ (a : Int) ∧ (a : Int) < q.addr + k))
theorem zqs (ps : List ProfD) (u : Int) : Says ps u [] (fun _ => 0) := fun a _ => by simp [takB]
theorem zoe {ps : List ProfD} {u : Int} {l : List FixD} {q : FixD} {F : Nat → Int} (h : Says ps u l F) (hq : q.uni ≠ u) : Says ps u (l ++ [q]) F := fun a ha => by
 rw [h a ha]; simp [takB, hq]
theorem zx9 {ps : List ProfD} {u : Int} {l : List FixD} {q : FixD} {F : Nat → Int} (h : Says ps u l F) : SaysTo ps u l q 0 F := fun a ha => by
 rw [h a ha]
 have : decide (q.addr ≤ (a : Int) ∧ (a : Int) < q.addr + (0 : Nat)) = false := by rw [decide_eq_false_iff_not]; omega
 rw [this, Bool.or_false]
theorem zp5 {ps : List ProfD} {u : Int} {l : List FixD} {q : FixD} {k c : Nat} {F : Nat → Int} {v : Int} (h : SaysTo ps u l q k F) (hc : (c : Int) = q.addr + k) (hv : 0 < v) : SaysTo ps u l q (k + 1) (setF F c v) := fun a ha => by
 unfold setF
 by_cases e : a = c
 · subst e
   rw [if_pos rfl]
   have : decide (q.addr ≤ (a : Int) ∧ (a : Int) < q.addr + ((k + 1 : Nat) : Int)) = true := by rw [decide_eq_true_eq]; omega
   rw [this, Bool.or_true]
   simpa using hv
 rw [if_neg e, h a ha]
 congr 1
 rw [Bool.eq_iff_iff]
 simp
 omega
theorem zt4 {ps : List ProfD} {u : Int} {l : List FixD} {q : FixD} {k : Nat} {F : Nat → Int} (h : SaysTo ps u l q k F) (hk : footOf ps q = k) (hu : q.uni = u) : Says ps u (l ++ [q]) F := fun a ha => by
 rw [h a ha]; simp [takB, hk, hu]
theorem zkx (v : Value) (l : List FixD) (mb : Nat) (xs : List (ProfD × Value)) (u : Int) (w : World) (hv : ListAt 7 fixA w v l) (hm : MapAt kS w mb (xs.map profG)) (hg : ∀ q ∈ l, GoodF (xs.map (·.1)) q) :
  Calls Tryz.prog 347 #[.agg #[v, .map (some mb)], .int .i64 u] w fun e w' => (∃ F, e = .returned (.agg (cellsI F)) ∧ Says (xs.map (·.1)) u l F) ∧ Below w.heap.size w w' := by
 obtain ⟨C, hC, hz⟩ := zlo.out
 obtain ⟨a, cap, rfl⟩ := hv.shape
 have hml := hv.few
 have HV := hid hv
 have HM := hid hm
 have HG := hid hg
 have HC := hid hC
 obtain ⟨wz, hwz⟩ : ∃ wz, ((w.alloc (.cells #[.slice a l.length cap, .map (some mb)] 382)).alloc (.cells C 408)).alloc (.cells C 408) = wz := ⟨_, rfl⟩
 have r0 : RowAt wz w.heap.size 382 #[.slice a l.length cap, .map (some mb)] := by rw [← hwz]; exact RowAt.alloc (RowAt.alloc (RowAt.mk rfl rfl) _) _
 have r1 : SlotsAt wz (w.heap.size + 1) fun _ => 0 := by
  have : RowAt wz (w.heap.size + 1) 408 C := by rw [← hwz]; exact RowAt.alloc (RowAt.mk (by simp) rfl) _
  rw [HC.out] at this; exact this
 have r2 : SlotsAt wz (w.heap.size + 1 + 1) fun _ => 0 := by
  have : RowAt wz (w.heap.size + 1 + 1) 408 C := by rw [← hwz]; exact RowAt.mk (by simp) rfl
  rw [HC.out] at this; exact this
 have bz : Below w.heap.size w wz := by rw [← hwz]; exact bel
 have H0 := hid (And.intro r1 (And.intro r2 bz))
 obtain ⟨x1, x2, x3, x4, x5, x6⟩ := zaa r0
 have R0 := hid r0
 clear r0 r1 r2 bz hv hm hg hC
 go_enter Tryz.func347, Tryz.ntmps347
 go_wp2_with fail
 have HS0 := hid (And.intro H0.out (And.intro R0.out (zqs (xs.map (·.1)) u)))
 clear hwz HC hz C H0 R0 x1 x2 x3 x4 x5 x6
 go_loopw [6, 7, 8, 12] (fun _ _ _ i wr => ∃ (k : Nat) (F : Nat → Int), k ≤ l.length ∧ i = .int .i64 k ∧ Hid (SlotsAt wr (w.heap.size + 1) (fun _ => 0) ∧ SlotsAt wr (w.heap.size + 1 + 1) F ∧ RowAt wr w.heap.size 382 #[.slice a l.length cap, .map (some mb)] ∧ Says (xs.map (·.1)) u (l.take k) F ∧ Below w.heap.size w wr)) (fun _ _ _ i _ => l.length - (intOf i).toNat)
 case atStart => exact ⟨0, _, Nat.zero_le _, rfl, hid ⟨HS0.out.1.1, HS0.out.1.2.1, HS0.out.2.1, HS0.out.2.2, HS0.out.1.2.2⟩⟩
 case round =>
  obtain ⟨k, F, hk, rfl, hh⟩ := hrel
  have hbw := hh.out.2.2.2.2
  have hbs := hbw.size
  have hsz := hh.out.2.1.facts.2.2
  by_cases hlt : k < l.length
  · have hlt3 : (k : Int) < (l.length : Int) := by omega
    obtain ⟨d, hd⟩ : ∃ d, l[k]? = some d := ⟨_, List.getElem?_eq_getElem hlt⟩
    obtain ⟨g, off, cap', he, hg0, hc⟩ := HV.out.at_ (by decide) hd
    cases he
    have hcw := hc wr hbw
    have hgd := HG.out d (List.mem_of_getElem? hd)
    have HT := hid (zaf hd)
    have hgr : g < wr.heap.size := Nat.lt_of_lt_of_le hg0 hbs
    obtain ⟨ch, part, prof, uni, addr, phase, cable⟩ := d
    have e0 : wr.cell? ⟨g, off + k * 7, none⟩ = some (.int .i64 ch) := hcw 0 (by decide)
    have e1 : wr.cell? ⟨g, off + k * 7 + 1, none⟩ = some (.int .i64 part) := hcw 1 (by decide)
    have e2 : wr.cell? ⟨g, off + k * 7 + 2, none⟩ = some (.string prof) := hcw 2 (by decide)
    have e3 : wr.cell? ⟨g, off + k * 7 + 3, none⟩ = some (.int .i64 uni) := hcw 3 (by decide)
    have e4 : wr.cell? ⟨g, off + k * 7 + 4, none⟩ = some (.int .i64 addr) := hcw 4 (by decide)
    have e5 : wr.cell? ⟨g, off + k * 7 + 5, none⟩ = some (.int .i64 phase) := hcw 5 (by decide)
    have e6 : wr.cell? ⟨g, off + k * 7 + 6, none⟩ = some (.string cable) := hcw 6 (by decide)
    clear hc hcw hd
    by_cases hu : uni = u
    · subst hu
      obtain ⟨p, hp, ha1, hp1, hap⟩ := hgd
      simp only at hp ha1 hap
      rw [zct] at hp
      obtain ⟨x, hx, rfl⟩ := Option.map_eq_some_iff.1 hp
      have hft : footOf (xs.map (·.1)) ⟨ch, part, prof, uni, addr, phase, cable⟩ = x.1.foot := by
       unfold footOf
       simp only [zct, hx, Option.map_some]
      have r7 : RowAt (wr.alloc (.cells #[.int .i64 ch, .int .i64 part, .string prof, .int .i64 uni, .int .i64 addr, .int .i64 phase, .string cable] 173)) wr.heap.size 173 #[.int .i64 ch, .int .i64 part, .string prof, .int .i64 uni, .int .i64 addr, .int .i64 phase, .string cable] := RowAt.new _ _ _
      have bw7 : Below w.heap.size w (wr.alloc (.cells #[.int .i64 ch, .int .i64 part, .string prof, .int .i64 uni, .int .i64 addr, .int .i64 phase, .string cable] 173)) := hbw.alloc hbs _
      have C := hid (zl4 (some ⟨g, off, none⟩) l.length cap mb xs ⟨ch, part, prof, uni, addr, phase, cable⟩ x _ (HM.out.run bw7) hx)
      have H7 := hid (And.intro (hh.out.1.alloc (.cells #[.int .i64 ch, .int .i64 part, .string prof, .int .i64 uni, .int .i64 addr, .int .i64 phase, .string cable] 173)) (And.intro (hh.out.2.1.alloc (.cells #[.int .i64 ch, .int .i64 part, .string prof, .int .i64 uni, .int .i64 addr, .int .i64 phase, .string cable] 173)) (And.intro (hh.out.2.2.1.alloc (.cells #[.int .i64 ch, .int .i64 part, .string prof, .int .i64 uni, .int .i64 addr, .int .i64 phase, .string cable] 173)) (And.intro r7 bw7))))
      have HH := hid (And.intro hft hh.out.2.2.2.1)
      obtain ⟨y1, y2, y3, y4, y5, y6⟩ := zaa hh.out.2.2.1
      have hkb : w.heap.size + 1 + 1 < wr.heap.size := hsz
      clear r7 bw7 hft hh hx hp
      simp only [fixA] at C
      generalize x.1.foot = ft at C HH hp1 hap
      go_wp2_with fail
      refine C.out.mono ?_
      rintro e w2 ⟨rfl, hb2⟩
      obtain ⟨fn, rfl⟩ : ∃ fn : Nat, ft = (fn : Int) := ⟨ft.toNat, by omega⟩
      have H2 := hid (And.intro (RowAt.run H7.out.1 hb2) (And.intro (RowAt.run H7.out.2.1 hb2) (And.intro (RowAt.run H7.out.2.2.1 hb2) (And.intro (RowAt.run H7.out.2.2.2.1 hb2) (H7.out.2.2.2.2.trans (hb2.mono H7.out.2.2.2.2.size))))))
      clear H7 C hb2 y1 y2 y3 y4 y5 y6 e0 e1 e2 e3 e4 e5 e6 hgr
      obtain ⟨kb, hkb2⟩ : ∃ kb, wr.heap.size = kb := ⟨_, rfl⟩
      rw [hkb2] at H2 hkb
      have hkn : ¬ w.heap.size + 1 + 1 = kb := by omega
      have hkn1 : ¬ w.heap.size + 1 = w.heap.size + 1 + 1 := by omega
      have hkn2 : ¬ w.heap.size = w.heap.size + 1 + 1 := by omega
      have hkn3 : ¬ kb = w.heap.size + 1 + 1 := by omega
      clear hbw hbs hsz
      rename World => wh
      go_wp2
      rename World => wy
      rename World => wz2
      go_loopw [8, 24] (fun _ i wr => ∃ (j : Nat) (G : Nat → Int), j ≤ fn ∧ i = .int .i64 j ∧ Hid (SlotsAt wr (w.heap.size + 1) (fun _ => 0) ∧ SlotsAt wr (w.heap.size + 1 + 1) G ∧ RowAt wr w.heap.size 382 #[.slice (some ⟨g, off, none⟩) l.length cap, .map (some mb)] ∧ RowAt wr kb 173 #[.int .i64 ch, .int .i64 part, .string prof, .int .i64 uni, .int .i64 addr, .int .i64 phase, .string cable] ∧ SaysTo (xs.map (·.1)) uni (l.take k) ⟨ch, part, prof, uni, addr, phase, cable⟩ j G ∧ Below w.heap.size w wr)) (fun _ i _ => fn - (intOf i).toNat)
      case atStart => exact ⟨0, F, Nat.zero_le _, rfl, hid ⟨H2.out.1, H2.out.2.1, H2.out.2.2.1, H2.out.2.2.2.1, zx9 HH.out.2, H2.out.2.2.2.2⟩⟩
      case round =>
       obtain ⟨j, G, hj, rfl, hi⟩ := hrel
       by_cases hlt2 : j < fn
       · have hlt4 : (j : Int) < (fn : Int) := by omega
         obtain ⟨c, hc⟩ : ∃ c : Nat, addr + (j : Int) = (c : Int) := ⟨(addr + j).toNat, by omega⟩
         have hc5 : c < 513 := by omega
         have hc6 : (c : Int) < 513 := by omega
         have hwc : IntKind.i64.wrap (addr + (j : Int)) = (c : Int) := by rw [IntWalk.i64_in _ (by omega)]; exact hc
         have hwk : IntKind.i64.wrap ((k : Int) + 1) = (k : Int) + 1 := IntWalk.i64_in _ (by omega)
         obtain ⟨z1, z2, z3, z4, z5, z6⟩ := zaa hi.out.2.2.2.1
         obtain ⟨s1, s2, s3⟩ := hi.out.2.1.facts
         have sc := s1 c hc5
         have HC := hid hc.symm
         clear s1 hc
         go_wp2
         go_roundw
         case rel => exact ⟨j + 1, setF G c ((k : Int) + 1), by omega, by go_num, hid ⟨RowAt.far hi.out.1 hkn1, hi.out.2.1.set hc5, RowAt.far hi.out.2.2.1 hkn2, RowAt.far hi.out.2.2.2.1 hkn3, zp5 hi.out.2.2.2.2.1 HC.out (by omega), Below.setCell hi.out.2.2.2.2.2 (by show w.heap.size ≤ w.heap.size + 1 + 1; omega) _⟩⟩
         case measure => simp [intOf]; omega
       obtain rfl : j = fn := by omega
       have HE := hid (show Says (xs.map (·.1)) uni (l.take (k + 1)) G from by rw [HT.out]; exact zt4 hi.out.2.2.2.2.1 HH.out.1 rfl)
       go_wp2
       go_roundw
       case rel => exact ⟨k + 1, G, by omega, by go_num, hid ⟨hi.out.1, hi.out.2.1, hi.out.2.2.1, HE.out, hi.out.2.2.2.2.2⟩⟩
       case measure => simp [intOf]; omega
    have hu2 : (uni != u) = true := by simpa using hu
    have HE := hid (show Says (xs.map (·.1)) u (l.take (k + 1)) F from by rw [HT.out]; exact zoe hh.out.2.2.2.1 hu)
    clear hgd
    go_wp2
    go_roundw
    case rel => exact ⟨k + 1, F, by omega, by go_num, hid ⟨hh.out.1.alloc _, hh.out.2.1.alloc _, hh.out.2.2.1.alloc _, HE.out, hbw.alloc hbs _⟩⟩
    case measure => simp [intOf]; omega
  obtain rfl : k = l.length := by omega
  have HE := hid (show Says (xs.map (·.1)) u l F from by have := hh.out.2.2.2.1; rwa [List.take_length] at this)
  have hi := (zero_of_info Tryz.info_univ).2
  have hj := hid hi
  obtain ⟨x1, x2, x3⟩ := hh.out.2.1.facts
  clear x1 hi
  go_wp2_with fail
  refine wp_load_row 408 (.tmp 5) rfl (w.heap.size + 1 + 1) (by rfl) 408 (cellsI F) (0, 0) _ hh.out.2.1 Tryz.underlying408 rfl (by rw [zbb]; exact hj.out) ?_
  go_wp2_with fail
  rw [zuy (cellsI F) hh.out.1 (by rw [zbb]; exact hj.out) (by rw [zbb, zbb]) (zg1 F)]
  go_wp2
  refine bodyPost_ret (v := .agg (cellsI F)) (results_cell_row rfl _ _ (w.heap.size + 1) 408 (cellsI F) (0, 0) _ rfl (setRow_heap wr _ _ _ _ _ hh.out.1) Tryz.underlying408 rfl (by rw [zbb]; exact hj.out)) rfl ⟨⟨F, rfl, HE.out⟩, ?_⟩
  exact below_setRow hbw (by omega) _
theorem zd0 {w w' : World} (h : Below w.drew.heap.size w.drew w') : Below w.heap.size w w' := ⟨h.os, h.tape, h.output, h.size, h.block⟩
theorem zow (v : Value) (ps : List ProfD) (x y : FixD) (w : World) (hv : RL 4 profA RProf w v ps) (hx : GoodF ps x) (hy : GoodF ps y) :
   Calls Tryz.prog 280 #[v, .agg (fixA x), .agg (fixA y)] w fun e w' => e = .returned (.bool (overB ps x y)) ∧ Below w.heap.size w w' := by
 obtain ⟨px, hpx, hx1, hx2, hx3⟩ := hx
 obtain ⟨py, hpy, hy1, hy2, hy3⟩ := hy
 have hfx : footOf ps x = px.foot := by unfold footOf; rw [hpx]
 have hfy : footOf ps y = py.foot := by unfold footOf; rw [hpy]
 obtain ⟨r, hr⟩ : ∃ r, overB ps x y = r := ⟨_, rfl⟩
 have HR := hid (show ((x.uni = y.uni ∧ x.addr < y.addr + py.foot ∧ y.addr < x.addr + px.foot) ↔ r = true) from by rw [← hr, overB, decide_eq_true_eq, hfx, hfy])
 rw [hr]
 obtain ⟨W1, hW1⟩ : ∃ W, (w.alloc (.cells (fixA x) 173)).alloc (.cells (fixA y) 173) = W := ⟨_, rfl⟩
 have qx : RowAt W1 w.heap.size 173 (fixA x) := by rw [← hW1]; exact RowAt.alloc (RowAt.mk rfl rfl) _
 have qy : RowAt W1 (w.heap.size + 1) 173 (fixA y) := by rw [← hW1]; exact RowAt.mk (by simp) rfl
 have qb : Below w.heap.size w W1 := by rw [← hW1]; exact bel
 have CX := hid (fun (W : World) (hb : Below W1.heap.size W1 W) => zg9 v ps x px W ((hv.run zap qb).run zap hb) hpx)
 have CY := hid (fun (W : World) (hb : Below W1.heap.size W1 W) => zg9 v ps y py W ((hv.run zap qb).run zap hb) hpy)
 obtain ⟨va, vc, rfl⟩ := hv.shape
 have QB := hid qb
 generalize px.foot = fx at CX HR hx2 hx3
 generalize py.foot = fy at CY HR hy2 hy3
 clear hfx hfy hpx hpy hr qb hv
 obtain ⟨xc, xp, xn, xu, xa, xh, xb⟩ := x
 obtain ⟨yc, yp, yn, yu, ya, yh, yb⟩ := y
 simp only [fixA] at CX CY HR hx1 hx3 hy1 hy3 qx qy hW1 ⊢
 have HK := hid (show ∀ w', Below W1.heap.size W1 w' → w'.cell? ⟨w.heap.size, 0, none⟩ = some (.int .i64 xc) ∧ w'.cell? ⟨w.heap.size, 1, none⟩ = some (.int .i64 xp) ∧ w'.cell? ⟨w.heap.size, 2, none⟩ = some (.string xn) ∧ w'.cell? ⟨w.heap.size, 3, none⟩ = some (.int .i64 xu) ∧ w'.cell? ⟨w.heap.size, 4, none⟩ = some (.int .i64 xa) ∧ w'.cell? ⟨w.heap.size, 5, none⟩ = some (.int .i64 xh) ∧ w'.cell? ⟨w.heap.size, 6, none⟩ = some (.string xb) ∧ w'.cell? ⟨w.heap.size + 1, 0, none⟩ = some (.int .i64 yc) ∧ w'.cell? ⟨w.heap.size + 1, 1, none⟩ = some (.int .i64 yp) ∧ w'.cell? ⟨w.heap.size + 1, 2, none⟩ = some (.string yn) ∧ w'.cell? ⟨w.heap.size + 1, 3, none⟩ = some (.int .i64 yu) ∧ w'.cell? ⟨w.heap.size + 1, 4, none⟩ = some (.int .i64 ya) ∧ w'.cell? ⟨w.heap.size + 1, 5, none⟩ = some (.int .i64 yh) ∧ w'.cell? ⟨w.heap.size + 1, 6, none⟩ = some (.string yb) from fun W hW => by
   obtain ⟨f1, _⟩ := zaa (qx.run hW)
   obtain ⟨f2, _⟩ := zaa (qy.run hW)
   exact ⟨f1 0, f1 1, f1 2, f1 3, f1 4, f1 5, f1 6, f2 0, f2 1, f2 2, f2 3, f2 4, f2 5, f2 6⟩)
 have kx : IntKind.i64.wrap (xa + fx) = xa + fx := IntWalk.i64_in _ (by omega)
 have ky : IntKind.i64.wrap (ya + fy) = ya + fy := IntWalk.i64_in _ (by omega)
 clear qx qy
 by_cases h1 : xu = yu
 · subst h1
   by_cases h2 : xa < ya + fy
   · have hq := hid (show decide (ya < xa + fx) = r from by rw [Bool.eq_iff_iff, ← HR.out, decide_eq_true_eq]; exact ⟨fun h => ⟨rfl, h2, h⟩, fun h => h.2.2⟩)
     go_enter Tryz.func280, Tryz.ntmps280
     go_wp2
     refine wp_region_noPanic ?_
     refine wp_region_held_drew (S := (fun w' => w'.cell? ⟨w.heap.size, 0, none⟩ = some (.int .i64 xc) ∧ w'.cell? ⟨w.heap.size, 1, none⟩ = some (.int .i64 xp) ∧ w'.cell? ⟨w.heap.size, 2, none⟩ = some (.string xn) ∧ w'.cell? ⟨w.heap.size, 3, none⟩ = some (.int .i64 xu) ∧ w'.cell? ⟨w.heap.size, 4, none⟩ = some (.int .i64 xa) ∧ w'.cell? ⟨w.heap.size, 5, none⟩ = some (.int .i64 xh) ∧ w'.cell? ⟨w.heap.size, 6, none⟩ = some (.string xb) ∧ w'.cell? ⟨w.heap.size + 1, 0, none⟩ = some (.int .i64 yc) ∧ w'.cell? ⟨w.heap.size + 1, 1, none⟩ = some (.int .i64 yp) ∧ w'.cell? ⟨w.heap.size + 1, 2, none⟩ = some (.string yn) ∧ w'.cell? ⟨w.heap.size + 1, 3, none⟩ = some (.int .i64 xu) ∧ w'.cell? ⟨w.heap.size + 1, 4, none⟩ = some (.int .i64 ya) ∧ w'.cell? ⟨w.heap.size + 1, 5, none⟩ = some (.int .i64 yh) ∧ w'.cell? ⟨w.heap.size + 1, 6, none⟩ = some (.string yb))) (by kernel_rfl) ?_ (fun hHeld => ?_)
     · exact HK.out _ (Below.refl _ _).drew
     refine tk 0 ?_
     refine tk 1 ?_
     refine tk 2 ?_
     refine tk 3 ?_
     refine tk 4 ?_
     refine tk 5 ?_
     refine tk 6 ?_
     refine tk 7 ?_
     refine tk 8 ?_
     refine tk 9 ?_
     refine tk 10 ?_
     refine tk 11 ?_
     refine wpAnyH_ready (rs := [12]) (by kernel_rfl) (by simp) ?_
     refine AllReadyH.cons (o := _) rfl (fun K hK => ?_) AllReadyH.nil
     go_simp
     (go_at_call 326; refine (CY.out _ (Below.refl _ _).drew).mono ?_; rintro e w2 ⟨rfl, hb2⟩; replace hb2 := zd0 hb2)
     refine hK.out _ _ ?_ (fun hHeld => ?_)
     · exact HK.out _ hb2
     clear hK K
     (try simp only [Act.put, List.setIfInBounds_toArray, List.set_cons_zero, List.set_cons_succ, List.getElem_toArray, List.getElem_cons_succ, List.getElem_cons_zero])
     refine tk 13 ?_
     refine tk 14 ?_
     refine tk 15 ?_
     refine tk 16 ?_
     refine tk 17 ?_
     refine tk 18 ?_
     refine tk 19 ?_
     refine tk 20 ?_
     refine tk 21 ?_
     refine tk 22 ?_
     refine wpAnyH_ready (rs := [23]) (by kernel_rfl) (by simp) ?_
     refine AllReadyH.cons (o := _) rfl (fun K hK => ?_) AllReadyH.nil
     go_simp
     (go_at_call 326; refine (CX.out _ hb2).mono ?_; rintro e w3 ⟨rfl, hb3⟩)
     refine hK.out _ _ ?_ (fun hHeld => ?_)
     · exact HK.out _ (hb2.trans (hb3.mono hb2.size))
     clear hK K
     (try simp only [Act.put, List.setIfInBounds_toArray, List.set_cons_zero, List.set_cons_succ, List.getElem_toArray, List.getElem_cons_succ, List.getElem_cons_zero])
     refine tk 24 ?_
     refine tk 25 ?_
     refine tk 26 ?_
     refine tk 27 ?_
     refine wpAnyH_done (by kernel_rfl) ?_ _
     refine NoPanic.normal ?_
     go_wp2
     go_ret
     exact ⟨zac hq.out, QB.out.trans ((hb2.trans (hb3.mono hb2.size)).mono QB.out.size)⟩
   have hq := hid (show false = r from by
     cases r with
     | false => rfl
     | true => exact absurd (HR.out.2 rfl).2.1 h2)
   have h2b : decide (xa < ya + fy) = false := by simpa using h2
   have h2c : ya + fy ≤ xa := by omega
   go_enter Tryz.func280, Tryz.ntmps280
   go_wp2
   refine wp_region_noPanic ?_
   refine wp_region_held_drew (S := (fun w' => w'.cell? ⟨w.heap.size, 0, none⟩ = some (.int .i64 xc) ∧ w'.cell? ⟨w.heap.size, 1, none⟩ = some (.int .i64 xp) ∧ w'.cell? ⟨w.heap.size, 2, none⟩ = some (.string xn) ∧ w'.cell? ⟨w.heap.size, 3, none⟩ = some (.int .i64 xu) ∧ w'.cell? ⟨w.heap.size, 4, none⟩ = some (.int .i64 xa) ∧ w'.cell? ⟨w.heap.size, 5, none⟩ = some (.int .i64 xh) ∧ w'.cell? ⟨w.heap.size, 6, none⟩ = some (.string xb) ∧ w'.cell? ⟨w.heap.size + 1, 0, none⟩ = some (.int .i64 yc) ∧ w'.cell? ⟨w.heap.size + 1, 1, none⟩ = some (.int .i64 yp) ∧ w'.cell? ⟨w.heap.size + 1, 2, none⟩ = some (.string yn) ∧ w'.cell? ⟨w.heap.size + 1, 3, none⟩ = some (.int .i64 xu) ∧ w'.cell? ⟨w.heap.size + 1, 4, none⟩ = some (.int .i64 ya) ∧ w'.cell? ⟨w.heap.size + 1, 5, none⟩ = some (.int .i64 yh) ∧ w'.cell? ⟨w.heap.size + 1, 6, none⟩ = some (.string yb))) (by kernel_rfl) ?_ (fun hHeld => ?_)
   · exact HK.out _ (Below.refl _ _).drew
   refine tk 0 ?_
   refine tk 1 ?_
   refine tk 2 ?_
   refine tk 3 ?_
   refine tk 4 ?_
   refine tk 5 ?_
   refine tk 6 ?_
   refine tk 7 ?_
   refine tk 8 ?_
   refine tk 9 ?_
   refine tk 10 ?_
   refine tk 11 ?_
   refine wpAnyH_ready (rs := [12]) (by kernel_rfl) (by simp) ?_
   refine AllReadyH.cons (o := _) rfl (fun K hK => ?_) AllReadyH.nil
   go_simp
   (go_at_call 326; refine (CY.out _ (Below.refl _ _).drew).mono ?_; rintro e w2 ⟨rfl, hb2⟩; replace hb2 := zd0 hb2)
   refine hK.out _ _ ?_ (fun hHeld => ?_)
   · exact HK.out _ hb2
   clear hK K
   (try simp only [Act.put, List.setIfInBounds_toArray, List.set_cons_zero, List.set_cons_succ, List.getElem_toArray, List.getElem_cons_succ, List.getElem_cons_zero])
   refine tk 13 ?_
   refine tk 14 ?_
   refine tk 15 ?_
   refine tk 16 ?_
   refine tu 17 ?_
   refine tu 18 ?_
   refine tu 19 ?_
   refine tu 20 ?_
   refine tu 21 ?_
   refine tu 22 ?_
   refine tu 23 ?_
   refine tu 24 ?_
   refine tu 25 ?_
   refine tk 26 ?_
   refine tk 27 ?_
   refine wpAnyH_done (by kernel_rfl) ?_ _
   refine NoPanic.normal ?_
   go_wp2
   go_ret
   exact ⟨zac hq.out, QB.out.trans (hb2.mono QB.out.size)⟩
 have h1b : (xu == yu) = false := by simpa using h1
 have hq := hid (show false = r from by
   cases r with
   | false => rfl
   | true => exact absurd (HR.out.2 rfl).1 h1)
 go_enter Tryz.func280, Tryz.ntmps280
 go_wp2
 refine wp_region_noPanic ?_
 refine wp_region_held_drew (S := (fun w' => w'.cell? ⟨w.heap.size, 0, none⟩ = some (.int .i64 xc) ∧ w'.cell? ⟨w.heap.size, 1, none⟩ = some (.int .i64 xp) ∧ w'.cell? ⟨w.heap.size, 2, none⟩ = some (.string xn) ∧ w'.cell? ⟨w.heap.size, 3, none⟩ = some (.int .i64 xu) ∧ w'.cell? ⟨w.heap.size, 4, none⟩ = some (.int .i64 xa) ∧ w'.cell? ⟨w.heap.size, 5, none⟩ = some (.int .i64 xh) ∧ w'.cell? ⟨w.heap.size, 6, none⟩ = some (.string xb) ∧ w'.cell? ⟨w.heap.size + 1, 0, none⟩ = some (.int .i64 yc) ∧ w'.cell? ⟨w.heap.size + 1, 1, none⟩ = some (.int .i64 yp) ∧ w'.cell? ⟨w.heap.size + 1, 2, none⟩ = some (.string yn) ∧ w'.cell? ⟨w.heap.size + 1, 3, none⟩ = some (.int .i64 yu) ∧ w'.cell? ⟨w.heap.size + 1, 4, none⟩ = some (.int .i64 ya) ∧ w'.cell? ⟨w.heap.size + 1, 5, none⟩ = some (.int .i64 yh) ∧ w'.cell? ⟨w.heap.size + 1, 6, none⟩ = some (.string yb))) (by kernel_rfl) ?_ (fun hHeld => ?_)
 · exact HK.out _ (Below.refl _ _).drew
 refine tk 0 ?_
 refine tk 1 ?_
 refine tk 2 ?_
 refine tk 3 ?_
 refine tk 4 ?_
 refine tk 5 ?_
 refine tu 6 ?_
 refine tu 7 ?_
 refine tu 8 ?_
 refine tu 9 ?_
 refine tu 10 ?_
 refine tu 11 ?_
 refine tu 12 ?_
 refine tu 13 ?_
 refine tu 14 ?_
 refine tk 15 ?_
 refine tk 16 ?_
 refine tu 17 ?_
 refine tu 18 ?_
 refine tu 19 ?_
 refine tu 20 ?_
 refine tu 21 ?_
 refine tu 22 ?_
 refine tu 23 ?_
 refine tu 24 ?_
 refine tu 25 ?_
 refine tk 26 ?_
 refine tk 27 ?_
 refine wpAnyH_done (by kernel_rfl) ?_ _
 refine NoPanic.normal ?_
 go_wp2
 go_ret
 exact ⟨zac hq.out, QB.out.drew⟩
end Go.Proofs.YtjeigphhepngmaaGreatDoor
