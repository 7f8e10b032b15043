/- -/
import Derived.Test.YtjeigphhepngmaaGreatDoorAf
namespace Go.Proofs.YtjeigphhepngmaaGreatDoor
open Go.RowKit
open Go.Lib (hid)
set_option maxHeartbeats 8000000
set_option linter.unusedSimpArgs false
set_option linter.unusedVariables false
set_option maxRecDepth 100000
theorem zcx {l : List LstD} (h : ∀ d ∈ l, d.cues.length ≤ 64) : (l.flatMap lstEs).length ≤ 65 * l.length := by
 induction l with
 | nil => simp
 | cons d l ih =>
   have g1 := h d (by simp)
   have g2 := ih fun x hx => h x (by simp [hx])
   simp only [List.flatMap_cons, List.length_append, lstEs, List.length_cons, List.length_map] at g2 ⊢
   omega
theorem zcm (s : ShowD) (v : ShowV) (w : World) (h : ShowAt w v s) (hs : ShowS s) (h64 : Show64 s) :
  Calls Tryz.prog 44 #[.agg (showA s v)] w fun e w' => ∃ g cap, e = .returned (.slice (some ⟨g, 0, none⟩) (piecesL s).length cap) ∧ w'.ownsRow w.heap.size 77 2 (.slice (some ⟨g, 0, none⟩) (piecesL s).length cap) (piecesL s).length (genL entA (piecesL s)) ∧ Below w.heap.size w w' := by
 have hmf : ∀ (fn : Fn) (first cap : Array Value) (w : World), (Instr.makeFunc fn first cap).run Tryz.prog w = .ok (.func fn first cap) w := fun _ _ _ _ => rfl
 obtain ⟨t, cs, ps, fs, gs, pls, ls, ss, es⟩ := s
 obtain ⟨v1, v2, v3, v4, v5, v6, v7, v8⟩ := v
 have HV1 := hid h.curves
 have HV2 := hid h.profs
 have HV3 := hid h.fixs
 have HV4 := hid h.grps
 have HV5 := hid h.pals
 have HV6 := hid h.lists
 have HV7 := hid h.subs
 have HV8 := hid h.effs
 simp only at HV1 HV2 HV3 HV4 HV5 HV6 HV7 HV8
 obtain ⟨a1, c1, rfl⟩ := HV1.out.shape
 obtain ⟨a2, c2, rfl⟩ := HV2.out.shape
 obtain ⟨a3, c3, rfl⟩ := HV3.out.shape
 obtain ⟨a4, c4, rfl⟩ := HV4.out.shape
 obtain ⟨a5, c5, rfl⟩ := HV5.out.shape
 obtain ⟨a6, c6, rfl⟩ := HV6.out.shape
 obtain ⟨a7, c7, rfl⟩ := HV7.out.shape
 obtain ⟨a8, c8, rfl⟩ := HV8.out.shape
 have ht : t.size ≤ 1000000000 := Nat.le_trans hs.title (by omega)
 have H64 := hid h64
 have HS := hid hs
 have HN := hid (show cs.length ≤ 16 ∧ ps.length ≤ 32 ∧ fs.length ≤ 64 ∧ gs.length ≤ 32 ∧ pls.length ≤ 32 ∧ (ls.flatMap lstEs).length ≤ 520 ∧ ls.length ≤ 8 ∧ ss.length ≤ 16 ∧ es.length ≤ 16 from ⟨hs.curves.1, hs.profs.1, hs.fixs.1, hs.grps.1, hs.pals.1, by have := zcx fun d hd => (hs.lists.2 d hd).1; have := hs.lists.1; simp only at *; omega, hs.lists.1, hs.subs.1, hs.effs.1⟩)
 have m1 : (cs.length : Int) ≤ 64 := by have := HN.out; omega
 have m2 : (ps.length : Int) ≤ 64 := by have := HN.out; omega
 have m3 : (fs.length : Int) ≤ 64 := by have := HN.out; omega
 have m4 : (gs.length : Int) ≤ 64 := by have := HN.out; omega
 have m5 : (pls.length : Int) ≤ 64 := by have := HN.out; omega
 have m6 : (ls.length : Int) ≤ 64 := by have := HN.out; omega
 have m7 : (ss.length : Int) ≤ 64 := by have := HN.out; omega
 have m8 : (es.length : Int) ≤ 64 := by have := HN.out; omega
 have HFL := hid (show piecesL ⟨t, cs, ps, fs, gs, pls, ls, ss, es⟩ = (((((((([ent 1 (intB 3 ++ textB t)] ++ cs.map (fun c => ent 2 (ptsB c))) ++ ps.map (fun d => ent 3 (profB d))) ++ fs.map (fun d => ent 4 (fixB d))) ++ gs.map (fun d => ent 5 (grpB d))) ++ pls.map (fun d => ent 6 (palB d))) ++ ls.flatMap lstEs) ++ ss.map (fun d => ent 9 (subB d))) ++ es.map (fun d => ent 10 (effB d))) ++ [ent 11 (intB ((((((((([ent 1 (intB 3 ++ textB t)] ++ cs.map (fun c => ent 2 (ptsB c))) ++ ps.map (fun d => ent 3 (profB d))) ++ fs.map (fun d => ent 4 (fixB d))) ++ gs.map (fun d => ent 5 (grpB d))) ++ pls.map (fun d => ent 6 (palB d))) ++ ls.flatMap lstEs) ++ ss.map (fun d => ent 9 (subB d))) ++ es.map (fun d => ent 10 (effB d)))).length)] from by
  have e : partsL ⟨t, cs, ps, fs, gs, pls, ls, ss, es⟩ = (((((((([ent 1 (intB 3 ++ textB t)] ++ cs.map (fun c => ent 2 (ptsB c))) ++ ps.map (fun d => ent 3 (profB d))) ++ fs.map (fun d => ent 4 (fixB d))) ++ gs.map (fun d => ent 5 (grpB d))) ++ pls.map (fun d => ent 6 (palB d))) ++ ls.flatMap lstEs) ++ ss.map (fun d => ent 9 (subB d))) ++ es.map (fun d => ent 10 (effB d))) := by simp only [partsL, List.append_assoc, List.cons_append, List.nil_append]
  rw [piecesL, e])
 simp only [showA]
 generalize piecesL ⟨t, cs, ps, fs, gs, pls, ls, ss, es⟩ = PL at HFL ⊢
 obtain ⟨W0, hW0⟩ : ∃ W, (w.alloc (.cells #[.string t, .slice a1 cs.length c1, .slice a2 ps.length c2, .slice a3 fs.length c3, .slice a4 gs.length c4, .slice a5 pls.length c5, .slice a6 ls.length c6, .slice a7 ss.length c7, .slice a8 es.length c8] 31)).alloc (.cells #[.slice none 0 0] 34) = W := ⟨_, rfl⟩
 have s0 : RowAt W0 w.heap.size 31 #[.string t, .slice a1 cs.length c1, .slice a2 ps.length c2, .slice a3 fs.length c3, .slice a4 gs.length c4, .slice a5 pls.length c5, .slice a6 ls.length c6, .slice a7 ss.length c7, .slice a8 es.length c8] := by rw [← hW0]; exact RowAt.alloc (RowAt.new _ _ _) _
 have q0 : RowAt W0 (w.heap.size + 1) 34 #[.slice none 0 0] := by rw [← hW0]; exact RowAt.mk (by simp) rfl
 have b0 : Below w.heap.size w W0 := by rw [← hW0]; exact bel
 have C1 := hid (fun (W : World) (hW : W0 = W) => by subst hW; exact zbd w #[.string t, .slice a1 cs.length c1, .slice a2 ps.length c2, .slice a3 fs.length c3, .slice a4 gs.length c4, .slice a5 pls.length c5, .slice a6 ls.length c6, .slice a7 ss.length c7, .slice a8 es.length c8] [] 84 (.pointer (some ⟨w.heap.size, 0, none⟩)) 1 (intB 3 ++ textB t) W0 ⟨⟨_, q0, World.ownsRow_nil _ _ _ _⟩, s0, b0⟩ (by simp) ⟨zby (by have := zb1 3; rw [List.length_append]; omega), zkk, fun b V hV hb => zk4 W0.heap.size b w.heap.size t _ _ _ _ _ _ _ _ V hV (s0.run hb) ht hb.size⟩)
 clear h hs h64 s0 q0 b0 ht
 go_enter Tryz.func44, Tryz.ntmps44
 go_wp2_with fail
 refine (C1.out _ rfl).mono ?_
 rintro e wx0 ⟨rfl, hp0⟩
 have SS0 := hid (show PSt w #[.string t, .slice a1 cs.length c1, .slice a2 ps.length c2, .slice a3 fs.length c3, .slice a4 gs.length c4, .slice a5 pls.length c5, .slice a6 ls.length c6, .slice a7 ss.length c7, .slice a8 es.length c8] [ent 1 (intB 3 ++ textB t)] wx0 from hp0)
 clear hp0 C1 hW0
 obtain ⟨x1, x2, x3, x4, x5, x6⟩ := zaa SS0.out.2.1
 go_wp2
 clear x1 x2 x3 x4 x5 x6
 go_loopw [6, 31] (fun _ i wr => ∃ k : Nat, k ≤ cs.length ∧ i = .int .i64 k ∧ Hid (PSt w #[.string t, .slice a1 cs.length c1, .slice a2 ps.length c2, .slice a3 fs.length c3, .slice a4 gs.length c4, .slice a5 pls.length c5, .slice a6 ls.length c6, .slice a7 ss.length c7, .slice a8 es.length c8] ([ent 1 (intB 3 ++ textB t)] ++ (cs.take k).map (fun c => ent 2 (ptsB c))) wr)) (fun _ i _ => cs.length - (intOf i).toNat)
 case atStart => exact ⟨0, Nat.zero_le _, rfl, hid (by simpa using SS0.out)⟩
 case round =>
  clear SS0
  obtain ⟨k, hk, rfl, hh⟩ := hrel
  by_cases hlt : k < cs.length
  · have hlt3 : (k : Int) < (cs.length : Int) := by omega
    have hbw : Below w.heap.size w wr := hh.out.2.2
    obtain ⟨d, hd⟩ : ∃ d, cs[k]? = some d := ⟨_, List.getElem?_eq_getElem hlt⟩
    have hm := List.mem_of_getElem? hd
    obtain ⟨y, g, off, cap', he, hg, hc⟩ := HV1.out.at_ (by decide) zaz hd
    cases he
    have hRw := (hc w (Below.refl _ _)).2
    have hcw := (hc wr hbw).1
    obtain ⟨ya, yc, e9⟩ := hRw.shape
    simp only at e9
    subst e9
    have e0 : wr.cell? ⟨g, off + k, none⟩ = some (.slice ya d.length yc) := by simpa [curveA] using hcw 0 (by decide)
    have hgr : g < wr.heap.size := Nat.lt_of_lt_of_le hg hbw.size
    have C := hid (zbd w _ ([ent 1 (intB 3 ++ textB t)] ++ (cs.take k).map (fun c => ent 2 (ptsB c))) 87 (.pointer (some ⟨wr.heap.size, 0, none⟩)) 2 (ptsB d) (wr.alloc (.cells #[.slice ya d.length yc] 144)) (hh.out.alloc _) (by have := HN.out; simp only [List.length_append, List.length_map, List.length_take, List.length_cons, List.length_nil]; omega) (zo5 d _ w wr hbw hRw (H64.out.curves d hm) (HS.out.curves.2 d hm)))
    have HT := hid (zaf hd)
    clear hd hm hc hcw hbw hk hlt hRw
    go_wp2_with fail
    refine C.out.mono ?_
    rintro e w2 ⟨rfl, hp⟩
    have HP := hid hp
    clear hp C
    go_wp2
    go_roundw
    case rel => exact ⟨k + 1, by omega, by go_num, hid (by rw [HT.out, List.map_append, ← List.append_assoc]; exact HP.out)⟩
    case measure => simp [intOf]; omega
  obtain rfl : k = cs.length := by omega
  have SS1 := hid (show PSt w #[.string t, .slice a1 cs.length c1, .slice a2 ps.length c2, .slice a3 fs.length c3, .slice a4 gs.length c4, .slice a5 pls.length c5, .slice a6 ls.length c6, .slice a7 ss.length c7, .slice a8 es.length c8] ([ent 1 (intB 3 ++ textB t)] ++ cs.map (fun c => ent 2 (ptsB c))) wr from by have := hh.out; rwa [List.take_length] at this)
  clear hh hk hlt
  rename World => wx1
  obtain ⟨x1, x2, x3, x4, x5, x6⟩ := zaa SS1.out.2.1
  go_wp2
  clear x1 x2 x3 x4 x5 x6
  go_loopw [8, 42] (fun _ i wr => ∃ k : Nat, k ≤ ps.length ∧ i = .int .i64 k ∧ Hid (PSt w #[.string t, .slice a1 cs.length c1, .slice a2 ps.length c2, .slice a3 fs.length c3, .slice a4 gs.length c4, .slice a5 pls.length c5, .slice a6 ls.length c6, .slice a7 ss.length c7, .slice a8 es.length c8] (([ent 1 (intB 3 ++ textB t)] ++ cs.map (fun c => ent 2 (ptsB c))) ++ (ps.take k).map (fun d => ent 3 (profB d))) wr)) (fun _ i _ => ps.length - (intOf i).toNat)
  case atStart => exact ⟨0, Nat.zero_le _, rfl, hid (by simpa using SS1.out)⟩
  case round =>
    clear SS1
    obtain ⟨k, hk, rfl, hh⟩ := hrel
    by_cases hlt : k < ps.length
    · have hlt3 : (k : Int) < (ps.length : Int) := by omega
      have hbw : Below w.heap.size w wr := hh.out.2.2
      obtain ⟨d, hd⟩ : ∃ d, ps[k]? = some d := ⟨_, List.getElem?_eq_getElem hlt⟩
      have hm := List.mem_of_getElem? hd
      obtain ⟨y, g, off, cap', he, hg, hc⟩ := HV2.out.at_ (by decide) zap hd
      cases he
      have hRw := (hc w (Below.refl _ _)).2
      have hcw := (hc wr hbw).1
      obtain ⟨ya, yc, e9⟩ := hRw.1.shape
      simp only at e9
      subst e9
      have e0 : wr.cell? ⟨g, off + k * 4, none⟩ = some (.string d.name) := hcw 0 (by decide)
      have e1 : wr.cell? ⟨g, off + k * 4 + 1, none⟩ = some (.int .i64 d.foot) := hcw 1 (by decide)
      have e2 : wr.cell? ⟨g, off + k * 4 + 2, none⟩ = some (.int .i64 d.watts) := hcw 2 (by decide)
      have e3 : wr.cell? ⟨g, off + k * 4 + 3, none⟩ = some (.slice ya d.feats.length yc) := hcw 3 (by decide)
      have hgr : g < wr.heap.size := Nat.lt_of_lt_of_le hg hbw.size
      have C := hid (zbd w _ (([ent 1 (intB 3 ++ textB t)] ++ cs.map (fun c => ent 2 (ptsB c))) ++ (ps.take k).map (fun d => ent 3 (profB d))) 89 (.pointer (some ⟨wr.heap.size, 0, none⟩)) 3 (profB d) (wr.alloc (.cells #[.string d.name, .int .i64 d.foot, .int .i64 d.watts, .slice ya d.feats.length yc] 89)) (hh.out.alloc _) (by have := HN.out; simp only [List.length_append, List.length_map, List.length_take, List.length_cons, List.length_nil]; omega) (zr2 d _ w wr hbw hRw.1 (H64.out.profs d hm) (Nat.le_trans (zja (H64.out.profs d hm) (zcv (HS.out.profs.2 d hm).1) (HS.out.profs.2 d hm).2.1 (HS.out.profs.2 d hm).2.2) (by omega))))
      have HT := hid (zaf hd)
      clear hd hm hc hcw hbw hk hlt hRw
      go_wp2_with fail
      refine C.out.mono ?_
      rintro e w2 ⟨rfl, hp⟩
      have HP := hid hp
      clear hp C
      go_wp2
      go_roundw
      case rel => exact ⟨k + 1, by omega, by go_num, hid (by rw [HT.out, List.map_append, ← List.append_assoc]; exact HP.out)⟩
      case measure => simp [intOf]; omega
    obtain rfl : k = ps.length := by omega
    have SS2 := hid (show PSt w #[.string t, .slice a1 cs.length c1, .slice a2 ps.length c2, .slice a3 fs.length c3, .slice a4 gs.length c4, .slice a5 pls.length c5, .slice a6 ls.length c6, .slice a7 ss.length c7, .slice a8 es.length c8] (([ent 1 (intB 3 ++ textB t)] ++ cs.map (fun c => ent 2 (ptsB c))) ++ ps.map (fun d => ent 3 (profB d))) wr from by have := hh.out; rwa [List.take_length] at this)
    clear hh hk hlt
    rename World => wx2
    obtain ⟨x1, x2, x3, x4, x5, x6⟩ := zaa SS2.out.2.1
    go_wp2
    clear x1 x2 x3 x4 x5 x6
    go_loopw [10, 53] (fun _ i wr => ∃ k : Nat, k ≤ fs.length ∧ i = .int .i64 k ∧ Hid (PSt w #[.string t, .slice a1 cs.length c1, .slice a2 ps.length c2, .slice a3 fs.length c3, .slice a4 gs.length c4, .slice a5 pls.length c5, .slice a6 ls.length c6, .slice a7 ss.length c7, .slice a8 es.length c8] ((([ent 1 (intB 3 ++ textB t)] ++ cs.map (fun c => ent 2 (ptsB c))) ++ ps.map (fun d => ent 3 (profB d))) ++ (fs.take k).map (fun d => ent 4 (fixB d))) wr)) (fun _ i _ => fs.length - (intOf i).toNat)
    case atStart => exact ⟨0, Nat.zero_le _, rfl, hid (by simpa using SS2.out)⟩
    case round =>
      clear SS2
      obtain ⟨k, hk, rfl, hh⟩ := hrel
      by_cases hlt : k < fs.length
      · have hlt3 : (k : Int) < (fs.length : Int) := by omega
        have hbw : Below w.heap.size w wr := hh.out.2.2
        obtain ⟨d, hd⟩ : ∃ d, fs[k]? = some d := ⟨_, List.getElem?_eq_getElem hlt⟩
        have hm := List.mem_of_getElem? hd
        obtain ⟨g, off, cap', he, hg, hc⟩ := HV3.out.at_ (by decide) hd
        cases he
        have hcw := hc wr hbw
        have e0 : wr.cell? ⟨g, off + k * 7, none⟩ = some (.int .i64 d.ch) := hcw 0 (by decide)
        have e1 : wr.cell? ⟨g, off + k * 7 + 1, none⟩ = some (.int .i64 d.part) := hcw 1 (by decide)
        have e2 : wr.cell? ⟨g, off + k * 7 + 2, none⟩ = some (.string d.prof) := hcw 2 (by decide)
        have e3 : wr.cell? ⟨g, off + k * 7 + 3, none⟩ = some (.int .i64 d.uni) := hcw 3 (by decide)
        have e4 : wr.cell? ⟨g, off + k * 7 + 4, none⟩ = some (.int .i64 d.addr) := hcw 4 (by decide)
        have e5 : wr.cell? ⟨g, off + k * 7 + 5, none⟩ = some (.int .i64 d.phase) := hcw 5 (by decide)
        have e6 : wr.cell? ⟨g, off + k * 7 + 6, none⟩ = some (.string d.cable) := hcw 6 (by decide)
        have hgr : g < wr.heap.size := Nat.lt_of_lt_of_le hg hbw.size
        have C := hid (zbd w _ ((([ent 1 (intB 3 ++ textB t)] ++ cs.map (fun c => ent 2 (ptsB c))) ++ ps.map (fun d => ent 3 (profB d))) ++ (fs.take k).map (fun d => ent 4 (fixB d))) 91 (.pointer (some ⟨wr.heap.size, 0, none⟩)) 4 (fixB d) (wr.alloc (.cells #[.int .i64 d.ch, .int .i64 d.part, .string d.prof, .int .i64 d.uni, .int .i64 d.addr, .int .i64 d.phase, .string d.cable] 173)) (hh.out.alloc _) (by have := HN.out; simp only [List.length_append, List.length_map, List.length_take, List.length_cons, List.length_nil]; omega) (zsx d w wr hbw (H64.out.fixs d hm) (Nat.le_trans (zhc (H64.out.fixs d hm) (HS.out.fixs.2 d hm).1 (HS.out.fixs.2 d hm).2) (by omega))))
        have HT := hid (zaf hd)
        clear hd hm hc hcw hbw hk hlt
        go_wp2_with fail
        refine C.out.mono ?_
        rintro e w2 ⟨rfl, hp⟩
        have HP := hid hp
        clear hp C
        go_wp2
        go_roundw
        case rel => exact ⟨k + 1, by omega, by go_num, hid (by rw [HT.out, List.map_append, ← List.append_assoc]; exact HP.out)⟩
        case measure => simp [intOf]; omega
      obtain rfl : k = fs.length := by omega
      have SS3 := hid (show PSt w #[.string t, .slice a1 cs.length c1, .slice a2 ps.length c2, .slice a3 fs.length c3, .slice a4 gs.length c4, .slice a5 pls.length c5, .slice a6 ls.length c6, .slice a7 ss.length c7, .slice a8 es.length c8] ((([ent 1 (intB 3 ++ textB t)] ++ cs.map (fun c => ent 2 (ptsB c))) ++ ps.map (fun d => ent 3 (profB d))) ++ fs.map (fun d => ent 4 (fixB d))) wr from by have := hh.out; rwa [List.take_length] at this)
      clear hh hk hlt
      rename World => wx3
      obtain ⟨x1, x2, x3, x4, x5, x6⟩ := zaa SS3.out.2.1
      go_wp2
      clear x1 x2 x3 x4 x5 x6
      go_loopw [12, 64] (fun _ i wr => ∃ k : Nat, k ≤ gs.length ∧ i = .int .i64 k ∧ Hid (PSt w #[.string t, .slice a1 cs.length c1, .slice a2 ps.length c2, .slice a3 fs.length c3, .slice a4 gs.length c4, .slice a5 pls.length c5, .slice a6 ls.length c6, .slice a7 ss.length c7, .slice a8 es.length c8] (((([ent 1 (intB 3 ++ textB t)] ++ cs.map (fun c => ent 2 (ptsB c))) ++ ps.map (fun d => ent 3 (profB d))) ++ fs.map (fun d => ent 4 (fixB d))) ++ (gs.take k).map (fun d => ent 5 (grpB d))) wr)) (fun _ i _ => gs.length - (intOf i).toNat)
      case atStart => exact ⟨0, Nat.zero_le _, rfl, hid (by simpa using SS3.out)⟩
      case round =>
        clear SS3
        obtain ⟨k, hk, rfl, hh⟩ := hrel
        by_cases hlt : k < gs.length
        · have hlt3 : (k : Int) < (gs.length : Int) := by omega
          have hbw : Below w.heap.size w wr := hh.out.2.2
          obtain ⟨d, hd⟩ : ∃ d, gs[k]? = some d := ⟨_, List.getElem?_eq_getElem hlt⟩
          have hm := List.mem_of_getElem? hd
          obtain ⟨y, g, off, cap', he, hg, hc⟩ := HV4.out.at_ (by decide) zbf hd
          cases he
          have hRw := (hc w (Below.refl _ _)).2
          have hcw := (hc wr hbw).1
          obtain ⟨ya, yc, e9⟩ := hRw.1.shape
          simp only at e9
          subst e9
          have e0 : wr.cell? ⟨g, off + k * 2, none⟩ = some (.int .i64 d.num) := hcw 0 (by decide)
          have e1 : wr.cell? ⟨g, off + k * 2 + 1, none⟩ = some (.slice ya d.chs.length yc) := hcw 1 (by decide)
          have hgr : g < wr.heap.size := Nat.lt_of_lt_of_le hg hbw.size
          have C := hid (zbd w _ (((([ent 1 (intB 3 ++ textB t)] ++ cs.map (fun c => ent 2 (ptsB c))) ++ ps.map (fun d => ent 3 (profB d))) ++ fs.map (fun d => ent 4 (fixB d))) ++ (gs.take k).map (fun d => ent 5 (grpB d))) 93 (.pointer (some ⟨wr.heap.size, 0, none⟩)) 5 (grpB d) (wr.alloc (.cells #[.int .i64 d.num, .slice ya d.chs.length yc] 147)) (hh.out.alloc _) (by have := HN.out; simp only [List.length_append, List.length_map, List.length_take, List.length_cons, List.length_nil]; omega) (zxz d _ w wr hbw hRw.1 (H64.out.grps d hm).1 (H64.out.grps d hm).2 (Nat.le_trans (zfx (H64.out.grps d hm).1 (H64.out.grps d hm).2 (HS.out.grps.2 d hm)) (by omega))))
          have HT := hid (zaf hd)
          clear hd hm hc hcw hbw hk hlt hRw
          go_wp2_with fail
          refine C.out.mono ?_
          rintro e w2 ⟨rfl, hp⟩
          have HP := hid hp
          clear hp C
          go_wp2
          go_roundw
          case rel => exact ⟨k + 1, by omega, by go_num, hid (by rw [HT.out, List.map_append, ← List.append_assoc]; exact HP.out)⟩
          case measure => simp [intOf]; omega
        obtain rfl : k = gs.length := by omega
        have SS4 := hid (show PSt w #[.string t, .slice a1 cs.length c1, .slice a2 ps.length c2, .slice a3 fs.length c3, .slice a4 gs.length c4, .slice a5 pls.length c5, .slice a6 ls.length c6, .slice a7 ss.length c7, .slice a8 es.length c8] (((([ent 1 (intB 3 ++ textB t)] ++ cs.map (fun c => ent 2 (ptsB c))) ++ ps.map (fun d => ent 3 (profB d))) ++ fs.map (fun d => ent 4 (fixB d))) ++ gs.map (fun d => ent 5 (grpB d))) wr from by have := hh.out; rwa [List.take_length] at this)
        clear hh hk hlt
        rename World => wx4
        obtain ⟨x1, x2, x3, x4, x5, x6⟩ := zaa SS4.out.2.1
        go_wp2
        clear x1 x2 x3 x4 x5 x6
        go_loopw [14, 75] (fun _ i wr => ∃ k : Nat, k ≤ pls.length ∧ i = .int .i64 k ∧ Hid (PSt w #[.string t, .slice a1 cs.length c1, .slice a2 ps.length c2, .slice a3 fs.length c3, .slice a4 gs.length c4, .slice a5 pls.length c5, .slice a6 ls.length c6, .slice a7 ss.length c7, .slice a8 es.length c8] ((((([ent 1 (intB 3 ++ textB t)] ++ cs.map (fun c => ent 2 (ptsB c))) ++ ps.map (fun d => ent 3 (profB d))) ++ fs.map (fun d => ent 4 (fixB d))) ++ gs.map (fun d => ent 5 (grpB d))) ++ (pls.take k).map (fun d => ent 6 (palB d))) wr)) (fun _ i _ => pls.length - (intOf i).toNat)
        case atStart => exact ⟨0, Nat.zero_le _, rfl, hid (by simpa using SS4.out)⟩
        case round =>
          clear SS4
          obtain ⟨k, hk, rfl, hh⟩ := hrel
          by_cases hlt : k < pls.length
          · have hlt3 : (k : Int) < (pls.length : Int) := by omega
            have hbw : Below w.heap.size w wr := hh.out.2.2
            obtain ⟨d, hd⟩ : ∃ d, pls[k]? = some d := ⟨_, List.getElem?_eq_getElem hlt⟩
            have hm := List.mem_of_getElem? hd
            obtain ⟨y, g, off, cap', he, hg, hc⟩ := HV5.out.at_ (by decide) zbe hd
            cases he
            have hRw := (hc w (Below.refl _ _)).2
            have hcw := (hc wr hbw).1
            obtain ⟨ya, yc, e9⟩ := hRw.shape
            simp only at e9
            subst e9
            have e0 : wr.cell? ⟨g, off + k * 2, none⟩ = some (.int .i64 d.num) := hcw 0 (by decide)
            have e1 : wr.cell? ⟨g, off + k * 2 + 1, none⟩ = some (.slice ya d.hues.length yc) := hcw 1 (by decide)
            have hgr : g < wr.heap.size := Nat.lt_of_lt_of_le hg hbw.size
            have C := hid (zbd w _ ((((([ent 1 (intB 3 ++ textB t)] ++ cs.map (fun c => ent 2 (ptsB c))) ++ ps.map (fun d => ent 3 (profB d))) ++ fs.map (fun d => ent 4 (fixB d))) ++ gs.map (fun d => ent 5 (grpB d))) ++ (pls.take k).map (fun d => ent 6 (palB d))) 96 (.pointer (some ⟨wr.heap.size, 0, none⟩)) 6 (palB d) (wr.alloc (.cells #[.int .i64 d.num, .slice ya d.hues.length yc] 150)) (hh.out.alloc _) (by have := HN.out; simp only [List.length_append, List.length_map, List.length_take, List.length_cons, List.length_nil]; omega) (zwh d _ w wr hbw hRw (H64.out.pals d hm).1 (H64.out.pals d hm).2 (Nat.le_trans (zim (H64.out.pals d hm).1 (H64.out.pals d hm).2 (HS.out.pals.2 d hm)) (by omega))))
            have HT := hid (zaf hd)
            clear hd hm hc hcw hbw hk hlt hRw
            go_wp2_with fail
            refine C.out.mono ?_
            rintro e w2 ⟨rfl, hp⟩
            have HP := hid hp
            clear hp C
            go_wp2
            go_roundw
            case rel => exact ⟨k + 1, by omega, by go_num, hid (by rw [HT.out, List.map_append, ← List.append_assoc]; exact HP.out)⟩
            case measure => simp [intOf]; omega
          obtain rfl : k = pls.length := by omega
          have SS5 := hid (show PSt w #[.string t, .slice a1 cs.length c1, .slice a2 ps.length c2, .slice a3 fs.length c3, .slice a4 gs.length c4, .slice a5 pls.length c5, .slice a6 ls.length c6, .slice a7 ss.length c7, .slice a8 es.length c8] ((((([ent 1 (intB 3 ++ textB t)] ++ cs.map (fun c => ent 2 (ptsB c))) ++ ps.map (fun d => ent 3 (profB d))) ++ fs.map (fun d => ent 4 (fixB d))) ++ gs.map (fun d => ent 5 (grpB d))) ++ pls.map (fun d => ent 6 (palB d))) wr from by have := hh.out; rwa [List.take_length] at this)
          clear hh hk hlt
          rename World => wx5
          obtain ⟨x1, x2, x3, x4, x5, x6⟩ := zaa SS5.out.2.1
          go_wp2
          clear x1 x2 x3 x4 x5 x6
          go_loopw [16, 86] (fun _ i wr => ∃ k : Nat, k ≤ ls.length ∧ i = .int .i64 k ∧ Hid (PSt w #[.string t, .slice a1 cs.length c1, .slice a2 ps.length c2, .slice a3 fs.length c3, .slice a4 gs.length c4, .slice a5 pls.length c5, .slice a6 ls.length c6, .slice a7 ss.length c7, .slice a8 es.length c8] (((((([ent 1 (intB 3 ++ textB t)] ++ cs.map (fun c => ent 2 (ptsB c))) ++ ps.map (fun d => ent 3 (profB d))) ++ fs.map (fun d => ent 4 (fixB d))) ++ gs.map (fun d => ent 5 (grpB d))) ++ pls.map (fun d => ent 6 (palB d))) ++ (ls.take k).flatMap lstEs) wr)) (fun _ i _ => ls.length - (intOf i).toNat)
          case atStart => exact ⟨0, Nat.zero_le _, rfl, hid (by simpa using SS5.out)⟩
          case round =>
            clear SS5
            obtain ⟨k, hk, rfl, hh⟩ := hrel
            by_cases hlt : k < ls.length
            · have hlt3 : (k : Int) < (ls.length : Int) := by omega
              have hbw : Below w.heap.size w wr := hh.out.2.2
              obtain ⟨d, hd⟩ : ∃ d, ls[k]? = some d := ⟨_, List.getElem?_eq_getElem hlt⟩
              have hm := List.mem_of_getElem? hd
              obtain ⟨y, g, off, cap', he, hg, hc⟩ := HV6.out.at_ (by decide) zbz hd
              cases he
              have hRw := (hc w (Below.refl _ _)).2
              have hcw := (hc wr hbw).1
              obtain ⟨ya, yc, e9⟩ := hRw.shape
              simp only at e9
              subst e9
              have e0 : wr.cell? ⟨g, off + k * 3, none⟩ = some (.int .i64 d.num) := hcw 0 (by decide)
              have e1 : wr.cell? ⟨g, off + k * 3 + 1, none⟩ = some (.int .i64 d.pri) := hcw 1 (by decide)
              have e2 : wr.cell? ⟨g, off + k * 3 + 2, none⟩ = some (.slice ya d.cues.length yc) := hcw 2 (by decide)
              have hgr : g < wr.heap.size := Nat.lt_of_lt_of_le hg hbw.size
              have hsz := hh.out.size
              have C := hid (zgl w _ (((((([ent 1 (intB 3 ++ textB t)] ++ cs.map (fun c => ent 2 (ptsB c))) ++ ps.map (fun d => ent 3 (profB d))) ++ fs.map (fun d => ent 4 (fixB d))) ++ gs.map (fun d => ent 5 (grpB d))) ++ pls.map (fun d => ent 6 (palB d))) ++ (ls.take k).flatMap lstEs) 99 wr.heap.size 93 #[.int .i64 d.num, .int .i64 d.pri, .slice ya d.cues.length yc] (.pointer (some ⟨wr.heap.size, 0, none⟩)) 7 (lstB d) (wr.alloc (.cells #[.int .i64 d.num, .int .i64 d.pri, .slice ya d.cues.length yc] 93)) (hh.out.alloc _) (by have := HN.out; have := zcx (l := ls.take k) (fun x hx => (HS.out.lists.2 x (List.mem_of_mem_take hx)).1); have := List.length_take_le k ls; (try have := HDL.out); simp only [List.length_append, List.length_map, List.length_cons, List.length_nil, List.length_take (l := d.cues)]; omega) (RowAt.new _ _ _) (by omega) (by decide) (zqc d _ w wr hbw (H64.out.lists d hm).1))
              have HT := hid (zaf hd)
              have HD := hid (And.intro hm (And.intro hRw hsz))
              have hdl : (d.cues.length : Int) ≤ 64 := by have := (HS.out.lists.2 d hm).1; omega
              have HDL := hid (show d.cues.length ≤ 64 from (HS.out.lists.2 d hm).1)
              clear hd hm hc hcw hbw hk hRw
              go_wp2_with fail
              refine C.out.mono ?_
              rintro e w2 ⟨rfl, hp, hr2⟩
              have HP := hid (And.intro hp hr2)
              obtain ⟨z1, z2, z3, z4, z5, z6⟩ := zaa hr2
              clear hp C hr2 e0 e1 e2 hgr
              obtain ⟨kb, hkb⟩ : ∃ kb, wr.heap.size = kb := ⟨_, rfl⟩
              rw [hkb] at z1 z2 z3 z4 z5 z6
              go_wp2
              clear z1 z2 z3 z4 z5 z6
              have HD2 := hid (show d ∈ ls ∧ RLst w (d, .slice ya d.cues.length yc) ∧ w.heap.size + 1 < kb from by rw [← hkb]; exact HD.out)
              rw [hkb] at HP
              clear HD hsz
              rename World => wy
              rename World => wh
              go_loopw [18, 96] (fun _ i wr => ∃ j : Nat, j ≤ d.cues.length ∧ i = .int .i64 j ∧ Hid (PSt w #[.string t, .slice a1 cs.length c1, .slice a2 ps.length c2, .slice a3 fs.length c3, .slice a4 gs.length c4, .slice a5 pls.length c5, .slice (some ⟨g, off, none⟩) ls.length c6, .slice a7 ss.length c7, .slice a8 es.length c8] ((((((([ent 1 (intB 3 ++ textB t)] ++ cs.map (fun c => ent 2 (ptsB c))) ++ ps.map (fun d => ent 3 (profB d))) ++ fs.map (fun d => ent 4 (fixB d))) ++ gs.map (fun d => ent 5 (grpB d))) ++ pls.map (fun d => ent 6 (palB d))) ++ (ls.take k).flatMap lstEs ++ [ent 7 (lstB d)]) ++ (d.cues.take j).map (fun c => ent 8 (cueB c))) wr ∧ RowAt wr kb 93 #[.int .i64 d.num, .int .i64 d.pri, .slice ya d.cues.length yc])) (fun _ i _ => d.cues.length - (intOf i).toNat)
              case atStart => exact ⟨0, Nat.zero_le _, rfl, hid ⟨by simpa using HP.out.1, HP.out.2⟩⟩
              case round =>
                obtain ⟨j, hj, rfl, hi⟩ := hrel
                by_cases hlt2 : j < d.cues.length
                · have hlt4 : (j : Int) < (d.cues.length : Int) := by omega
                  have hbw : Below w.heap.size w wr := hi.out.1.2.2
                  obtain ⟨c, hc⟩ : ∃ c, d.cues[j]? = some c := ⟨_, List.getElem?_eq_getElem hlt2⟩
                  have hcm := List.mem_of_getElem? hc
                  obtain ⟨⟨ca, cb⟩, g2, off2, cap2, he, hg2, hc2⟩ := RL.at_ (by decide) zbr HD2.out.2.1 hc
                  cases he
                  have hRc := (hc2 w (Below.refl _ _)).2
                  have hcw := (hc2 wr hbw).1
                  obtain ⟨va, vac, e8⟩ := hRc.at_.moves.shape
                  obtain ⟨vb, vbc, e9⟩ := hRc.at_.parts.shape
                  simp only at e8 e9
                  subst e8 e9
                  have e0 : wr.cell? ⟨g2, off2 + j * 9, none⟩ = some (.string c.num) := hcw 0 (by decide)
                  have e1 : wr.cell? ⟨g2, off2 + j * 9 + 1, none⟩ = some (.string c.lab) := hcw 1 (by decide)
                  have e2 : wr.cell? ⟨g2, off2 + j * 9 + 2, none⟩ = some (.slice va c.moves.length vac) := hcw 2 (by decide)
                  have e3 : wr.cell? ⟨g2, off2 + j * 9 + 3, none⟩ = some (.slice vb c.parts.length vbc) := hcw 3 (by decide)
                  have e4 : wr.cell? ⟨g2, off2 + j * 9 + 4, none⟩ = some (.bool c.block) := hcw 4 (by decide)
                  have e5 : wr.cell? ⟨g2, off2 + j * 9 + 5, none⟩ = some (.bool c.mark) := hcw 5 (by decide)
                  have e6 : wr.cell? ⟨g2, off2 + j * 9 + 6, none⟩ = some (.int .i64 c.follow) := hcw 6 (by decide)
                  have e7 : wr.cell? ⟨g2, off2 + j * 9 + 7, none⟩ = some (.string c.link) := hcw 7 (by decide)
                  have e8 : wr.cell? ⟨g2, off2 + j * 9 + 8, none⟩ = some (.int .i64 c.loops) := hcw 8 (by decide)
                  have hgr : g2 < wr.heap.size := Nat.lt_of_lt_of_le hg2 hbw.size
                  have hsm := (HS.out.lists.2 d HD2.out.1).2 c hcm
                  have h48 := (H64.out.lists d HD2.out.1).2 c hcm
                  have C := hid (zgl w _ ((((((([ent 1 (intB 3 ++ textB t)] ++ cs.map (fun c => ent 2 (ptsB c))) ++ ps.map (fun d => ent 3 (profB d))) ++ fs.map (fun d => ent 4 (fixB d))) ++ gs.map (fun d => ent 5 (grpB d))) ++ pls.map (fun d => ent 6 (palB d))) ++ (ls.take k).flatMap lstEs ++ [ent 7 (lstB d)]) ++ (d.cues.take j).map (fun c => ent 8 (cueB c))) 100 kb 93 #[.int .i64 d.num, .int .i64 d.pri, .slice (some ⟨g2, off2, none⟩) d.cues.length yc] (.pointer (some ⟨wr.heap.size, 0, none⟩)) 8 (cueB c) (wr.alloc (.cells #[.string c.num, .string c.lab, .slice va c.moves.length vac, .slice vb c.parts.length vbc, .bool c.block, .bool c.mark, .int .i64 c.follow, .string c.link, .int .i64 c.loops] 64)) (hi.out.1.alloc _) (by have := HN.out; have := zcx (l := ls.take k) (fun x hx => (HS.out.lists.2 x (List.mem_of_mem_take hx)).1); have := List.length_take_le k ls; (try have := HDL.out); simp only [List.length_append, List.length_map, List.length_cons, List.length_nil, List.length_take (l := d.cues)]; omega) (hi.out.2.alloc _) (by have := HD2.out.2.2; omega) (by decide) (zs0 c _ _ w wr hbw hRc.at_ h48.ok (Nat.le_trans (zgc h48 hsm.2.num hsm.2.lab hsm.2.link hsm.2.moves hsm.2.parts) (by omega))))
                  have HT2 := hid (zaf hc)
                  clear hc hcm hc2 hcw hbw hj hlt2 hRc hsm h48
                  go_wp2_with fail
                  refine C.out.mono ?_
                  rintro e w3 ⟨rfl, hp, hr3⟩
                  have HP3 := hid (And.intro hp hr3)
                  clear hp C hr3
                  go_wp2
                  go_roundw
                  case rel => exact ⟨j + 1, by omega, by go_num, hid ⟨by rw [HT2.out, List.map_append, ← List.append_assoc]; exact HP3.out.1, HP3.out.2⟩⟩
                  case measure => simp [intOf]; omega
                obtain rfl : j = d.cues.length := by omega
                have HI := hid (show PSt w #[.string t, .slice a1 cs.length c1, .slice a2 ps.length c2, .slice a3 fs.length c3, .slice a4 gs.length c4, .slice a5 pls.length c5, .slice (some ⟨g, off, none⟩) ls.length c6, .slice a7 ss.length c7, .slice a8 es.length c8] (((((([ent 1 (intB 3 ++ textB t)] ++ cs.map (fun c => ent 2 (ptsB c))) ++ ps.map (fun d => ent 3 (profB d))) ++ fs.map (fun d => ent 4 (fixB d))) ++ gs.map (fun d => ent 5 (grpB d))) ++ pls.map (fun d => ent 6 (palB d))) ++ (ls.take (k + 1)).flatMap lstEs) wr from by
                  have := hi.out.1
                  rw [List.take_length] at this
                  rw [HT.out, List.flatMap_append, ← List.append_assoc]
                  simpa [lstEs, List.append_assoc] using this)
                clear hi
                go_wp2
                go_roundw
                case rel => exact ⟨k + 1, by omega, by go_num, HI⟩
                case measure => simp [intOf]; omega
            obtain rfl : k = ls.length := by omega
            have SS6 := hid (show PSt w #[.string t, .slice a1 cs.length c1, .slice a2 ps.length c2, .slice a3 fs.length c3, .slice a4 gs.length c4, .slice a5 pls.length c5, .slice a6 ls.length c6, .slice a7 ss.length c7, .slice a8 es.length c8] (((((([ent 1 (intB 3 ++ textB t)] ++ cs.map (fun c => ent 2 (ptsB c))) ++ ps.map (fun d => ent 3 (profB d))) ++ fs.map (fun d => ent 4 (fixB d))) ++ gs.map (fun d => ent 5 (grpB d))) ++ pls.map (fun d => ent 6 (palB d))) ++ ls.flatMap lstEs) wr from by have := hh.out; rwa [List.take_length] at this)
            clear hh hk hlt
            rename World => wx6
            obtain ⟨x1, x2, x3, x4, x5, x6⟩ := zaa SS6.out.2.1
            go_wp2
            clear x1 x2 x3 x4 x5 x6
            go_loopw [20, 108] (fun _ i wr => ∃ k : Nat, k ≤ ss.length ∧ i = .int .i64 k ∧ Hid (PSt w #[.string t, .slice a1 cs.length c1, .slice a2 ps.length c2, .slice a3 fs.length c3, .slice a4 gs.length c4, .slice a5 pls.length c5, .slice a6 ls.length c6, .slice a7 ss.length c7, .slice a8 es.length c8] ((((((([ent 1 (intB 3 ++ textB t)] ++ cs.map (fun c => ent 2 (ptsB c))) ++ ps.map (fun d => ent 3 (profB d))) ++ fs.map (fun d => ent 4 (fixB d))) ++ gs.map (fun d => ent 5 (grpB d))) ++ pls.map (fun d => ent 6 (palB d))) ++ ls.flatMap lstEs) ++ (ss.take k).map (fun d => ent 9 (subB d))) wr)) (fun _ i _ => ss.length - (intOf i).toNat)
            case atStart => exact ⟨0, Nat.zero_le _, rfl, hid (by simpa using SS6.out)⟩
            case round =>
              clear SS6
              obtain ⟨k, hk, rfl, hh⟩ := hrel
              by_cases hlt : k < ss.length
              · have hlt3 : (k : Int) < (ss.length : Int) := by omega
                have hbw : Below w.heap.size w wr := hh.out.2.2
                obtain ⟨d, hd⟩ : ∃ d, ss[k]? = some d := ⟨_, List.getElem?_eq_getElem hlt⟩
                have hm := List.mem_of_getElem? hd
                obtain ⟨y, g, off, cap', he, hg, hc⟩ := HV7.out.at_ (by decide) zbm hd
                cases he
                have hRw := (hc w (Below.refl _ _)).2
                have hcw := (hc wr hbw).1
                obtain ⟨ya, yc, e9⟩ := hRw.shape
                simp only at e9
                subst e9
                have e0 : wr.cell? ⟨g, off + k * 4, none⟩ = some (.int .i64 d.num) := hcw 0 (by decide)
                have e1 : wr.cell? ⟨g, off + k * 4 + 1, none⟩ = some (.int .i64 d.pri) := hcw 1 (by decide)
                have e2 : wr.cell? ⟨g, off + k * 4 + 2, none⟩ = some (.bool d.inh) := hcw 2 (by decide)
                have e3 : wr.cell? ⟨g, off + k * 4 + 3, none⟩ = some (.slice ya d.gains.length yc) := hcw 3 (by decide)
                have hgr : g < wr.heap.size := Nat.lt_of_lt_of_le hg hbw.size
                have C := hid (zbd w _ ((((((([ent 1 (intB 3 ++ textB t)] ++ cs.map (fun c => ent 2 (ptsB c))) ++ ps.map (fun d => ent 3 (profB d))) ++ fs.map (fun d => ent 4 (fixB d))) ++ gs.map (fun d => ent 5 (grpB d))) ++ pls.map (fun d => ent 6 (palB d))) ++ ls.flatMap lstEs) ++ (ss.take k).map (fun d => ent 9 (subB d))) 101 (.pointer (some ⟨wr.heap.size, 0, none⟩)) 9 (subB d) (wr.alloc (.cells #[.int .i64 d.num, .int .i64 d.pri, .bool d.inh, .slice ya d.gains.length yc] 153)) (hh.out.alloc _) (by have := HN.out; simp only [List.length_append, List.length_map, List.length_take, List.length_cons, List.length_nil]; omega) (zne d _ w wr hbw hRw (H64.out.subs d hm).1 (H64.out.subs d hm).2 (Nat.le_trans (zk3 (H64.out.subs d hm).1 (H64.out.subs d hm).2 (HS.out.subs.2 d hm)) (by omega))))
                have HT := hid (zaf hd)
                clear hd hm hc hcw hbw hk hlt hRw
                go_wp2_with fail
                refine C.out.mono ?_
                rintro e w2 ⟨rfl, hp⟩
                have HP := hid hp
                clear hp C
                go_wp2
                go_roundw
                case rel => exact ⟨k + 1, by omega, by go_num, hid (by rw [HT.out, List.map_append, ← List.append_assoc]; exact HP.out)⟩
                case measure => simp [intOf]; omega
              obtain rfl : k = ss.length := by omega
              have SS7 := hid (show PSt w #[.string t, .slice a1 cs.length c1, .slice a2 ps.length c2, .slice a3 fs.length c3, .slice a4 gs.length c4, .slice a5 pls.length c5, .slice a6 ls.length c6, .slice a7 ss.length c7, .slice a8 es.length c8] ((((((([ent 1 (intB 3 ++ textB t)] ++ cs.map (fun c => ent 2 (ptsB c))) ++ ps.map (fun d => ent 3 (profB d))) ++ fs.map (fun d => ent 4 (fixB d))) ++ gs.map (fun d => ent 5 (grpB d))) ++ pls.map (fun d => ent 6 (palB d))) ++ ls.flatMap lstEs) ++ ss.map (fun d => ent 9 (subB d))) wr from by have := hh.out; rwa [List.take_length] at this)
              clear hh hk hlt
              rename World => wx7
              obtain ⟨x1, x2, x3, x4, x5, x6⟩ := zaa SS7.out.2.1
              go_wp2
              clear x1 x2 x3 x4 x5 x6
              go_loopw [22, 119] (fun _ i wr => ∃ k : Nat, k ≤ es.length ∧ i = .int .i64 k ∧ Hid (PSt w #[.string t, .slice a1 cs.length c1, .slice a2 ps.length c2, .slice a3 fs.length c3, .slice a4 gs.length c4, .slice a5 pls.length c5, .slice a6 ls.length c6, .slice a7 ss.length c7, .slice a8 es.length c8] (((((((([ent 1 (intB 3 ++ textB t)] ++ cs.map (fun c => ent 2 (ptsB c))) ++ ps.map (fun d => ent 3 (profB d))) ++ fs.map (fun d => ent 4 (fixB d))) ++ gs.map (fun d => ent 5 (grpB d))) ++ pls.map (fun d => ent 6 (palB d))) ++ ls.flatMap lstEs) ++ ss.map (fun d => ent 9 (subB d))) ++ (es.take k).map (fun d => ent 10 (effB d))) wr)) (fun _ i _ => es.length - (intOf i).toNat)
              case atStart => exact ⟨0, Nat.zero_le _, rfl, hid (by simpa using SS7.out)⟩
              case round =>
                clear SS7
                obtain ⟨k, hk, rfl, hh⟩ := hrel
                by_cases hlt : k < es.length
                · have hlt3 : (k : Int) < (es.length : Int) := by omega
                  have hbw : Below w.heap.size w wr := hh.out.2.2
                  obtain ⟨d, hd⟩ : ∃ d, es[k]? = some d := ⟨_, List.getElem?_eq_getElem hlt⟩
                  have hm := List.mem_of_getElem? hd
                  obtain ⟨y, g, off, cap', he, hg, hc⟩ := HV8.out.at_ (by decide) zb0 hd
                  cases he
                  have hRw := (hc w (Below.refl _ _)).2
                  have hcw := (hc wr hbw).1
                  obtain ⟨ya, yc, e9⟩ := hRw.shape
                  simp only at e9
                  subst e9
                  have e0 : wr.cell? ⟨g, off + k * 6, none⟩ = some (.int .i64 d.num) := hcw 0 (by decide)
                  have e1 : wr.cell? ⟨g, off + k * 6 + 1, none⟩ = some (.int .i64 d.attr) := hcw 1 (by decide)
                  have e2 : wr.cell? ⟨g, off + k * 6 + 2, none⟩ = some (.slice ya d.wave.length yc) := hcw 2 (by decide)
                  have e3 : wr.cell? ⟨g, off + k * 6 + 3, none⟩ = some (.int .i64 d.per) := hcw 3 (by decide)
                  have e4 : wr.cell? ⟨g, off + k * 6 + 4, none⟩ = some (.int .i64 d.spr) := hcw 4 (by decide)
                  have e5 : wr.cell? ⟨g, off + k * 6 + 5, none⟩ = some (.int .i64 d.size) := hcw 5 (by decide)
                  have hgr : g < wr.heap.size := Nat.lt_of_lt_of_le hg hbw.size
                  have C := hid (zbd w _ (((((((([ent 1 (intB 3 ++ textB t)] ++ cs.map (fun c => ent 2 (ptsB c))) ++ ps.map (fun d => ent 3 (profB d))) ++ fs.map (fun d => ent 4 (fixB d))) ++ gs.map (fun d => ent 5 (grpB d))) ++ pls.map (fun d => ent 6 (palB d))) ++ ls.flatMap lstEs) ++ ss.map (fun d => ent 9 (subB d))) ++ (es.take k).map (fun d => ent 10 (effB d))) 103 (.pointer (some ⟨wr.heap.size, 0, none⟩)) 10 (effB d) (wr.alloc (.cells #[.int .i64 d.num, .int .i64 d.attr, .slice ya d.wave.length yc, .int .i64 d.per, .int .i64 d.spr, .int .i64 d.size] 183)) (hh.out.alloc _) (by have := HN.out; simp only [List.length_append, List.length_map, List.length_take, List.length_cons, List.length_nil]; omega) (zxd d _ w wr hbw hRw (H64.out.effs d hm).1 (H64.out.effs d hm).2.1 (H64.out.effs d hm).2.2 (Nat.le_trans (zjw (H64.out.effs d hm).1 (H64.out.effs d hm).2.1 (H64.out.effs d hm).2.2 (HS.out.effs.2 d hm)) (by omega))))
                  have HT := hid (zaf hd)
                  clear hd hm hc hcw hbw hk hlt hRw
                  go_wp2_with fail
                  refine C.out.mono ?_
                  rintro e w2 ⟨rfl, hp⟩
                  have HP := hid hp
                  clear hp C
                  go_wp2
                  go_roundw
                  case rel => exact ⟨k + 1, by omega, by go_num, hid (by rw [HT.out, List.map_append, ← List.append_assoc]; exact HP.out)⟩
                  case measure => simp [intOf]; omega
                obtain rfl : k = es.length := by omega
                have SS8 := hid (show PSt w #[.string t, .slice a1 cs.length c1, .slice a2 ps.length c2, .slice a3 fs.length c3, .slice a4 gs.length c4, .slice a5 pls.length c5, .slice a6 ls.length c6, .slice a7 ss.length c7, .slice a8 es.length c8] (((((((([ent 1 (intB 3 ++ textB t)] ++ cs.map (fun c => ent 2 (ptsB c))) ++ ps.map (fun d => ent 3 (profB d))) ++ fs.map (fun d => ent 4 (fixB d))) ++ gs.map (fun d => ent 5 (grpB d))) ++ pls.map (fun d => ent 6 (palB d))) ++ ls.flatMap lstEs) ++ ss.map (fun d => ent 9 (subB d))) ++ es.map (fun d => ent 10 (effB d))) wr from by have := hh.out; rwa [List.take_length] at this)
                clear hh hk hlt
                rename World => wx8
                have hsz := SS8.out.size
                have C2 := hid (zbd w _ (((((((([ent 1 (intB 3 ++ textB t)] ++ cs.map (fun c => ent 2 (ptsB c))) ++ ps.map (fun d => ent 3 (profB d))) ++ fs.map (fun d => ent 4 (fixB d))) ++ gs.map (fun d => ent 5 (grpB d))) ++ pls.map (fun d => ent 6 (palB d))) ++ ls.flatMap lstEs) ++ ss.map (fun d => ent 9 (subB d))) ++ es.map (fun d => ent 10 (effB d))) 105 (.pointer (some ⟨wx8.heap.size, 0, none⟩)) 11 (intB (((((((((([ent 1 (intB 3 ++ textB t)] ++ cs.map (fun c => ent 2 (ptsB c))) ++ ps.map (fun d => ent 3 (profB d))) ++ fs.map (fun d => ent 4 (fixB d))) ++ gs.map (fun d => ent 5 (grpB d))) ++ pls.map (fun d => ent 6 (palB d))) ++ ls.flatMap lstEs) ++ ss.map (fun d => ent 9 (subB d))) ++ es.map (fun d => ent 10 (effB d)))).length : Int)) (wx8.alloc (.cells #[.int .i64 (((((((((([ent 1 (intB 3 ++ textB t)] ++ cs.map (fun c => ent 2 (ptsB c))) ++ ps.map (fun d => ent 3 (profB d))) ++ fs.map (fun d => ent 4 (fixB d))) ++ gs.map (fun d => ent 5 (grpB d))) ++ pls.map (fun d => ent 6 (palB d))) ++ ls.flatMap lstEs) ++ ss.map (fun d => ent 9 (subB d))) ++ es.map (fun d => ent 10 (effB d)))).length : Int)] 3)) (SS8.out.alloc _) (by have := HN.out; simp only [List.length_append, List.length_map, List.length_cons, List.length_nil]; omega) ⟨zby (zb1 _), zh2, fun b V hV hb => zk7 _ b wx8.heap.size _ V hV ((RowAt.new wx8 _ _).run hb) (by have := HN.out; simp only [List.length_append, List.length_map, List.length_cons, List.length_nil]; omega) hb.size⟩)
                have HP8 := SS8
                obtain ⟨⟨v8, q8, own8⟩, _⟩ := SS8.out
                obtain ⟨ga, gc, e8, _⟩ := zc9 own8
                subst e8
                obtain ⟨x1, x2, x3, x4, x5, x6⟩ := zaa q8
                generalize (((((((([ent 1 (intB 3 ++ textB t)] ++ cs.map (fun c => ent 2 (ptsB c))) ++ ps.map (fun d => ent 3 (profB d))) ++ fs.map (fun d => ent 4 (fixB d))) ++ gs.map (fun d => ent 5 (grpB d))) ++ pls.map (fun d => ent 6 (palB d))) ++ ls.flatMap lstEs) ++ ss.map (fun d => ent 9 (subB d))) ++ es.map (fun d => ent 10 (effB d))) = AL at C2 HFL HP8 own8 q8 x1 ⊢
                clear SS8 own8 q8 hsz
                go_wp2_with fail
                refine C2.out.mono ?_
                rintro e w9 ⟨rfl, hp⟩
                obtain ⟨⟨v9, q9, own9⟩, _, hb9⟩ := hp
                obtain ⟨ga9, gc9, e9⟩ : ∃ g c, v9 = .slice (some ⟨g, 0, none⟩) (AL ++ [ent 11 (intB (AL.length : Int))]).length c := by
                  rcases own9.2 with ⟨_, hn⟩ | ⟨g, cap, cur, hv, _⟩
                  · exact absurd hn (by simp)
                  exact ⟨_, _, hv⟩
                subst e9
                obtain ⟨y1, y2, y3, y4, y5, y6⟩ := zaa q9
                have HO := hid (And.intro own9 hb9)
                clear own9 q9 hb9 x1
                go_wp2
                go_ret
                have hPL := HFL.out
                subst hPL
                exact ⟨ga9, gc9, by first | rfl | (simp; done) | (simp [piecesL]; done), zfj HO.out.1 (Nat.le_succ _), HO.out.2⟩
end Go.Proofs.YtjeigphhepngmaaGreatDoor
