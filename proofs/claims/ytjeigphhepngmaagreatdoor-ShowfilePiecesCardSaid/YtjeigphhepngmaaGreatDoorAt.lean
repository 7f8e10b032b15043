/- -/
import Derived.Deep.AppendLies
import Derived.Test.YtjeigphhepngmaaGreatDoorAs
import Derived.Test.YtjeigphhepngmaaGreatDoorAg
namespace Go.Proofs.YtjeigphhepngmaaGreatDoor
open Go.RowKit
open Go.Lib (hid)
set_option maxHeartbeats 8000000
set_option linter.unusedSimpArgs false
set_option linter.unusedVariables false
set_option maxRecDepth 100000
theorem zo1 (s : ShowD) (v : ShowV) (w : World) (h : ShowAt w v s) (hs : ShowS s) (h64 : Show64 s) :
  Calls Tryz.prog 46 #[.agg (showA s v)] w fun e w' => ∃ g cap, e = .returned (.slice (some ⟨g, 0, none⟩) (piecesL s).length cap) ∧ w'.ownsRow w.heap.size 98 2 (.slice (some ⟨g, 0, none⟩) (piecesL s).length cap) (piecesL s).length (genL entA (piecesL s)) ∧ Below w.heap.size w w' := by
 obtain ⟨i0, hi, hz0, hz1, hz2⟩ := info_parts Tryz.info_rentry
 obtain ⟨t, cs, ps, fs, gs, pls, ls, ss, es⟩ := s
 obtain ⟨v1, v2, v3, v4, v5, v6, v7, v8⟩ := v
 have HV1 := hid h.curves
 have HV2 := hid h.profs
 have HV3 := hid h.fixs
 have HV4 := hid h.grps
 have HV5 := hid h.pals
 have HV6 := hid h.lists
 have HV7 := hid h.subs
 have HV8 := hid h.effs
 simp only at HV1 HV2 HV3 HV4 HV5 HV6 HV7 HV8
 obtain ⟨a1, c1, rfl⟩ := HV1.out.shape
 obtain ⟨a2, c2, rfl⟩ := HV2.out.shape
 obtain ⟨a3, c3, rfl⟩ := HV3.out.shape
 obtain ⟨a4, c4, rfl⟩ := HV4.out.shape
 obtain ⟨a5, c5, rfl⟩ := HV5.out.shape
 obtain ⟨a6, c6, rfl⟩ := HV6.out.shape
 obtain ⟨a7, c7, rfl⟩ := HV7.out.shape
 obtain ⟨a8, c8, rfl⟩ := HV8.out.shape
 have ht : t.size ≤ 24 := hs.title
 have H64 := hid h64
 have HS := hid hs
 have HN := hid (show cs.length ≤ 16 ∧ ps.length ≤ 32 ∧ fs.length ≤ 64 ∧ gs.length ≤ 32 ∧ pls.length ≤ 32 ∧ (ls.flatMap lstEs).length ≤ 520 ∧ ls.length ≤ 8 ∧ ss.length ≤ 16 ∧ es.length ≤ 16 from ⟨hs.curves.1, hs.profs.1, hs.fixs.1, hs.grps.1, hs.pals.1, by have := zcx fun d hd => (hs.lists.2 d hd).1; have := hs.lists.1; simp only at *; omega, hs.lists.1, hs.subs.1, hs.effs.1⟩)
 have m1 : (cs.length : Int) ≤ 64 := by have := HN.out; omega
 have m2 : (ps.length : Int) ≤ 64 := by have := HN.out; omega
 have m3 : (fs.length : Int) ≤ 64 := by have := HN.out; omega
 have m4 : (gs.length : Int) ≤ 64 := by have := HN.out; omega
 have m5 : (pls.length : Int) ≤ 64 := by have := HN.out; omega
 have m6 : (ls.length : Int) ≤ 64 := by have := HN.out; omega
 have m7 : (ss.length : Int) ≤ 64 := by have := HN.out; omega
 have m8 : (es.length : Int) ≤ 64 := by have := HN.out; omega
 have HFL := hid (show piecesL ⟨t, cs, ps, fs, gs, pls, ls, ss, es⟩ = (((((((([ent 1 (intB 3 ++ textB t)] ++ cs.map (fun c => ent 2 (ptsB c))) ++ ps.map (fun d => ent 3 (profB d))) ++ fs.map (fun d => ent 4 (fixB d))) ++ gs.map (fun d => ent 5 (grpB d))) ++ pls.map (fun d => ent 6 (palB d))) ++ ls.flatMap lstEs) ++ ss.map (fun d => ent 9 (subB d))) ++ es.map (fun d => ent 10 (effB d))) ++ [ent 11 (intB ((((((((([ent 1 (intB 3 ++ textB t)] ++ cs.map (fun c => ent 2 (ptsB c))) ++ ps.map (fun d => ent 3 (profB d))) ++ fs.map (fun d => ent 4 (fixB d))) ++ gs.map (fun d => ent 5 (grpB d))) ++ pls.map (fun d => ent 6 (palB d))) ++ ls.flatMap lstEs) ++ ss.map (fun d => ent 9 (subB d))) ++ es.map (fun d => ent 10 (effB d)))).length)] from by
  have e : partsL ⟨t, cs, ps, fs, gs, pls, ls, ss, es⟩ = (((((((([ent 1 (intB 3 ++ textB t)] ++ cs.map (fun c => ent 2 (ptsB c))) ++ ps.map (fun d => ent 3 (profB d))) ++ fs.map (fun d => ent 4 (fixB d))) ++ gs.map (fun d => ent 5 (grpB d))) ++ pls.map (fun d => ent 6 (palB d))) ++ ls.flatMap lstEs) ++ ss.map (fun d => ent 9 (subB d))) ++ es.map (fun d => ent 10 (effB d))) := by simp only [partsL, List.append_assoc, List.cons_append, List.nil_append]
  rw [piecesL, e])
 simp only [showA]
 generalize piecesL ⟨t, cs, ps, fs, gs, pls, ls, ss, es⟩ = PL at HFL ⊢
 obtain ⟨Z, hZ⟩ : ∃ Z, w.alloc (.cells #[.string t, .slice a1 cs.length c1, .slice a2 ps.length c2, .slice a3 fs.length c3, .slice a4 gs.length c4, .slice a5 pls.length c5, .slice a6 ls.length c6, .slice a7 ss.length c7, .slice a8 es.length c8] 31) = Z := ⟨_, rfl⟩
 have r0 : RowAt Z w.heap.size 31 #[.string t, .slice a1 cs.length c1, .slice a2 ps.length c2, .slice a3 fs.length c3, .slice a4 gs.length c4, .slice a5 pls.length c5, .slice a6 ls.length c6, .slice a7 ss.length c7, .slice a8 es.length c8] := by rw [← hZ]; exact RowAt.new _ _ _
 have hbz : Below w.heap.size w Z := by rw [← hZ]; exact bel
 have HZ := hid (And.intro r0 hbz)
 have hsz := hbz.size
 have HK := hid (fun (W : World) (hW : Below Z.heap.size Z W) => (show W.cell? ⟨w.heap.size, 0, none⟩ = some (.string t) from (zaa (HZ.out.1.run hW)).1 0))
 have e0 := HK.out Z (Below.refl _ _)
 have CT := hid (fun W => zcd t W (by omega))
 have C3 := hid (fun W => zb4 3 W (by decide) (by decide))
 have z1 : ((str (intB 3)).size : Int) ≤ 1000000000 := zae (Nat.le_trans (za3 (by decide) (by decide)) (by decide))
 have z2 : ((str (textB t)).size : Int) ≤ 1000000000 := zae (by have := zbi ht (by omega); omega)
 have HX0 := hid (show str (intB 3) ++ str (textB t) = str (intB 3 ++ textB t) from zas _ _)
 generalize str (intB 3) = x1 at z1 C3 HX0
 generalize str (textB t) = x2 at z2 CT HX0
 have su1a : ¬ 9223372036854775807 < (x1.size : Int) + (x2.size : Int) := by omega
 have su1b : ¬ 9223372036854775807 < x1.size + x2.size := by omega
 clear h hs h64 r0 hbz ht
 go_enter Tryz.func46, Tryz.ntmps46
 go_wp2
 go_cut [3] (fun s3 wx => Hid (RSt w #[.string t, .slice a1 cs.length c1, .slice a2 ps.length c2, .slice a3 fs.length c3, .slice a4 gs.length c4, .slice a5 pls.length c5, .slice a6 ls.length c6, .slice a7 ss.length c7, .slice a8 es.length c8] [ent 1 (intB 3 ++ textB t)] s3 wx))
 case first =>
  go_region_held3 (fun w' => w'.cell? ⟨w.heap.size, 0, none⟩ = some (.string t)) (first | exact HK.out _ bel | go_keep)
    (first | (go_at_call 113; (with_reducible refine (CT.out _).mono ?_); rintro e w5 ⟨rfl, hb5⟩; have hs5 := hb5.size; (try simp at hs5)) | (go_at_call 112; (with_reducible refine (C3.out _).mono ?_); rintro e w4 ⟨rfl, hb4⟩; have hs4 := hb4.size; (try simp at hs4)))
  all_goals (go_wp2_with fail; go_meet)
  all_goals
    have hb9 : Below Z.heap.size Z w5 := bel
    rw [HX0.out]
    exact hid (zu1 (kd := 1) (RowAt.new _ _ _) ((HZ.out.1.run hb9).alloc _) ((HZ.out.2.trans (hb9.mono hsz)).alloc (by have := hb9.size; omega) _) (by have := hb9.size; omega))
 rename_i s3
 have SS0 := hcut
 clear hcut e0 HK HX0 z1 z2 x1 x2 CT C3 su1a su1b hZ
 obtain ⟨x1, x2, x3, x4, x5, x6⟩ := zaa SS0.out.2.1
 go_wp2
 clear x1 x2 x3 x4 x5 x6
 go_loopw [3, 4] (fun v i wr => ∃ k : Nat, k ≤ cs.length ∧ i = .int .i64 k ∧ Hid (RSt w #[.string t, .slice a1 cs.length c1, .slice a2 ps.length c2, .slice a3 fs.length c3, .slice a4 gs.length c4, .slice a5 pls.length c5, .slice a6 ls.length c6, .slice a7 ss.length c7, .slice a8 es.length c8] ([ent 1 (intB 3 ++ textB t)] ++ (cs.take k).map (fun c => ent 2 (ptsB c))) v wr)) (fun _ i _ => cs.length - (intOf i).toNat)
 case atStart => exact ⟨0, Nat.zero_le _, rfl, hid (by simpa using SS0.out)⟩
 case round =>
  clear SS0
  obtain ⟨k, hk, rfl, hh⟩ := hrel
  obtain ⟨x1, x2, x3, x4, x5, x6⟩ := zaa hh.out.2.1
  by_cases hlt : k < cs.length
  · have hlt3 : (k : Int) < (cs.length : Int) := by omega
    have hbw : Below w.heap.size w wr := hh.out.2.2
    obtain ⟨d, hd⟩ : ∃ d, cs[k]? = some d := ⟨_, List.getElem?_eq_getElem hlt⟩
    have hm := List.mem_of_getElem? hd
    obtain ⟨y, g, off, cap', he, hg, hc⟩ := HV1.out.at_ (by decide) zaz hd
    cases he
    have hRw := (hc w (Below.refl _ _)).2
    have hcw := (hc wr hbw).1
    obtain ⟨ya, yc, e9⟩ := hRw.shape
    simp only at e9
    subst e9
    have e0 : wr.cell? ⟨g, off + k, none⟩ = some (.slice ya d.length yc) := by simpa [curveA] using hcw 0 (by decide)
    have C := hid (fun (W : World) (hW : Below w.heap.size w W) => zh0 _ d W (hRw.run hW) (H64.out.curves d hm) (HS.out.curves.2 d hm))
    skip
    have HT := hid (zaf hd)
    generalize ho : str (ptsB d) = o at C
    have HO := hid ho
    have HEN := hid (show ([ent 1 (intB 3 ++ textB t)] ++ (cs.take k).map (fun c => ent 2 (ptsB c))).length ≤ 2000 from by have := HN.out; simp only [List.length_append, List.length_map, List.length_take, List.length_cons, List.length_nil]; omega)
    obtain ⟨EL, hEL⟩ : ∃ EL, [ent 1 (intB 3 ++ textB t)] ++ (cs.take k).map (fun c => ent 2 (ptsB c)) = EL := ⟨_, rfl⟩
    have HEL := hid hEL
    rw [hEL] at hh HEN
    clear hEL
    clear hd hm hc hcw hk hlt ho hRw
    go_wp2_with fail
    refine (C.out _ hbw).mono ?_
    rintro e w2 ⟨rfl, hb2⟩
    have R2 := hid (hh.out.run hb2)
    clear hb2 x1 x2 x3 x4 x5 x6 e0 hbw C
    go_wp2_with (at_builtin; refine wpList_append_lies _ rfl _ _ 38 rfl w.heap.size 98 i0 _ 2 24 Tryz.underlying38 hi hz0 hz1 hz2 rfl (by decide) _ _ _ rfl (R2.out.alloc (.cells #[.int .i64 2, .string o] 98)).1 ⟨w2.heap.size, 0, none⟩ 1 1 [.int .i64 2, .string o] rfl rfl zbv (zbt _ _) (by decide) (by unfold maxLen; have := HEN.out; omega) (by have := HEN.out; omega) (by have := R2.out.2.2.size; simp; omega) (w2.heap.size + 1) (by simp) ?_)
    intro gg cp3 w3 hown3 hgrow _ _
    have R3 := hid (zbx (kd := 2) (R2.out.alloc _) hown3 rfl hgrow)
    clear hown3 hgrow
    go_wp2
    go_roundw
    case rel => exact ⟨k + 1, by omega, by go_num, hid (by rw [HT.out, List.map_append, ← List.append_assoc, HEL.out]; have := R3.out; rw [← HO.out] at this; exact this)⟩
    case measure => simp [intOf]; omega
  obtain rfl : k = cs.length := by omega
  have SS1 := hid (show RSt w #[.string t, .slice a1 cs.length c1, .slice a2 ps.length c2, .slice a3 fs.length c3, .slice a4 gs.length c4, .slice a5 pls.length c5, .slice a6 ls.length c6, .slice a7 ss.length c7, .slice a8 es.length c8] ([ent 1 (intB 3 ++ textB t)] ++ cs.map (fun c => ent 2 (ptsB c))) u3 wr from by have := hh.out; rwa [List.take_length] at this)
  clear hh hk hlt
  rename World => wx1
  obtain ⟨x1, x2, x3, x4, x5, x6⟩ := zaa SS1.out.2.1
  go_wp2
  clear x1 x2 x3 x4 x5 x6
  go_loopw [3, 5] (fun v i wr => ∃ k : Nat, k ≤ ps.length ∧ i = .int .i64 k ∧ Hid (RSt w #[.string t, .slice a1 cs.length c1, .slice a2 ps.length c2, .slice a3 fs.length c3, .slice a4 gs.length c4, .slice a5 pls.length c5, .slice a6 ls.length c6, .slice a7 ss.length c7, .slice a8 es.length c8] (([ent 1 (intB 3 ++ textB t)] ++ cs.map (fun c => ent 2 (ptsB c))) ++ (ps.take k).map (fun d => ent 3 (profB d))) v wr)) (fun _ i _ => ps.length - (intOf i).toNat)
  case atStart => exact ⟨0, Nat.zero_le _, rfl, hid (by simpa using SS1.out)⟩
  case round =>
    clear SS1
    obtain ⟨k, hk, rfl, hh⟩ := hrel
    obtain ⟨x1, x2, x3, x4, x5, x6⟩ := zaa hh.out.2.1
    by_cases hlt : k < ps.length
    · have hlt3 : (k : Int) < (ps.length : Int) := by omega
      have hbw : Below w.heap.size w wr := hh.out.2.2
      obtain ⟨d, hd⟩ : ∃ d, ps[k]? = some d := ⟨_, List.getElem?_eq_getElem hlt⟩
      have hm := List.mem_of_getElem? hd
      obtain ⟨y, g, off, cap', he, hg, hc⟩ := HV2.out.at_ (by decide) zap hd
      cases he
      have hRw := (hc w (Below.refl _ _)).2
      have hcw := (hc wr hbw).1
      obtain ⟨ya, yc, e9⟩ := hRw.1.shape
      simp only at e9
      subst e9
      have e0 : wr.cell? ⟨g, off + k * 4, none⟩ = some (.string d.name) := hcw 0 (by decide)
      have e1 : wr.cell? ⟨g, off + k * 4 + 1, none⟩ = some (.int .i64 d.foot) := hcw 1 (by decide)
      have e2 : wr.cell? ⟨g, off + k * 4 + 2, none⟩ = some (.int .i64 d.watts) := hcw 2 (by decide)
      have e3 : wr.cell? ⟨g, off + k * 4 + 3, none⟩ = some (.slice ya d.feats.length yc) := hcw 3 (by decide)
      have C := hid (fun (W : World) (hW : Below w.heap.size w W) => zuu d _ W (hRw.1.run za6 hW) (H64.out.profs d hm) (zcv (HS.out.profs.2 d hm).1) (HS.out.profs.2 d hm).2.1 (HS.out.profs.2 d hm).2.2)
      simp only [profA] at C
      have HT := hid (zaf hd)
      generalize ho : str (profB d) = o at C
      have HO := hid ho
      have HEN := hid (show (([ent 1 (intB 3 ++ textB t)] ++ cs.map (fun c => ent 2 (ptsB c))) ++ (ps.take k).map (fun d => ent 3 (profB d))).length ≤ 2000 from by have := HN.out; simp only [List.length_append, List.length_map, List.length_take, List.length_cons, List.length_nil]; omega)
      obtain ⟨EL, hEL⟩ : ∃ EL, ([ent 1 (intB 3 ++ textB t)] ++ cs.map (fun c => ent 2 (ptsB c))) ++ (ps.take k).map (fun d => ent 3 (profB d)) = EL := ⟨_, rfl⟩
      have HEL := hid hEL
      rw [hEL] at hh HEN
      clear hEL
      clear hd hm hc hcw hk hlt ho hRw
      go_wp2_with fail
      refine (C.out _ hbw).mono ?_
      rintro e w2 ⟨rfl, hb2⟩
      have R2 := hid (hh.out.run hb2)
      clear hb2 x1 x2 x3 x4 x5 x6 e0 e1 e2 e3 hbw C
      go_wp2_with (at_builtin; refine wpList_append_lies _ rfl _ _ 38 rfl w.heap.size 98 i0 _ 2 24 Tryz.underlying38 hi hz0 hz1 hz2 rfl (by decide) _ _ _ rfl (R2.out.alloc (.cells #[.int .i64 3, .string o] 98)).1 ⟨w2.heap.size, 0, none⟩ 1 1 [.int .i64 3, .string o] rfl rfl zbv (zbt _ _) (by decide) (by unfold maxLen; have := HEN.out; omega) (by have := HEN.out; omega) (by have := R2.out.2.2.size; simp; omega) (w2.heap.size + 1) (by simp) ?_)
      intro gg cp3 w3 hown3 hgrow _ _
      have R3 := hid (zbx (kd := 3) (R2.out.alloc _) hown3 rfl hgrow)
      clear hown3 hgrow
      go_wp2
      go_roundw
      case rel => exact ⟨k + 1, by omega, by go_num, hid (by rw [HT.out, List.map_append, ← List.append_assoc, HEL.out]; have := R3.out; rw [← HO.out] at this; exact this)⟩
      case measure => simp [intOf]; omega
    obtain rfl : k = ps.length := by omega
    have SS2 := hid (show RSt w #[.string t, .slice a1 cs.length c1, .slice a2 ps.length c2, .slice a3 fs.length c3, .slice a4 gs.length c4, .slice a5 pls.length c5, .slice a6 ls.length c6, .slice a7 ss.length c7, .slice a8 es.length c8] (([ent 1 (intB 3 ++ textB t)] ++ cs.map (fun c => ent 2 (ptsB c))) ++ ps.map (fun d => ent 3 (profB d))) u3 wr from by have := hh.out; rwa [List.take_length] at this)
    clear hh hk hlt
    rename World => wx2
    obtain ⟨x1, x2, x3, x4, x5, x6⟩ := zaa SS2.out.2.1
    go_wp2
    clear x1 x2 x3 x4 x5 x6
    go_loopw [3, 6] (fun v i wr => ∃ k : Nat, k ≤ fs.length ∧ i = .int .i64 k ∧ Hid (RSt w #[.string t, .slice a1 cs.length c1, .slice a2 ps.length c2, .slice a3 fs.length c3, .slice a4 gs.length c4, .slice a5 pls.length c5, .slice a6 ls.length c6, .slice a7 ss.length c7, .slice a8 es.length c8] ((([ent 1 (intB 3 ++ textB t)] ++ cs.map (fun c => ent 2 (ptsB c))) ++ ps.map (fun d => ent 3 (profB d))) ++ (fs.take k).map (fun d => ent 4 (fixB d))) v wr)) (fun _ i _ => fs.length - (intOf i).toNat)
    case atStart => exact ⟨0, Nat.zero_le _, rfl, hid (by simpa using SS2.out)⟩
    case round =>
      clear SS2
      obtain ⟨k, hk, rfl, hh⟩ := hrel
      obtain ⟨x1, x2, x3, x4, x5, x6⟩ := zaa hh.out.2.1
      by_cases hlt : k < fs.length
      · have hlt3 : (k : Int) < (fs.length : Int) := by omega
        have hbw : Below w.heap.size w wr := hh.out.2.2
        obtain ⟨d, hd⟩ : ∃ d, fs[k]? = some d := ⟨_, List.getElem?_eq_getElem hlt⟩
        have hm := List.mem_of_getElem? hd
        obtain ⟨g, off, cap', he, hg, hc⟩ := HV3.out.at_ (by decide) hd
        cases he
        have hcw := hc wr hbw
        have e0 : wr.cell? ⟨g, off + k * 7, none⟩ = some (.int .i64 d.ch) := hcw 0 (by decide)
        have e1 : wr.cell? ⟨g, off + k * 7 + 1, none⟩ = some (.int .i64 d.part) := hcw 1 (by decide)
        have e2 : wr.cell? ⟨g, off + k * 7 + 2, none⟩ = some (.string d.prof) := hcw 2 (by decide)
        have e3 : wr.cell? ⟨g, off + k * 7 + 3, none⟩ = some (.int .i64 d.uni) := hcw 3 (by decide)
        have e4 : wr.cell? ⟨g, off + k * 7 + 4, none⟩ = some (.int .i64 d.addr) := hcw 4 (by decide)
        have e5 : wr.cell? ⟨g, off + k * 7 + 5, none⟩ = some (.int .i64 d.phase) := hcw 5 (by decide)
        have e6 : wr.cell? ⟨g, off + k * 7 + 6, none⟩ = some (.string d.cable) := hcw 6 (by decide)
        have C := hid (fun (W : World) (hW : Below w.heap.size w W) => zup d W (H64.out.fixs d hm) (HS.out.fixs.2 d hm).1 (HS.out.fixs.2 d hm).2)
        simp only [fixA] at C
        have HT := hid (zaf hd)
        generalize ho : str (fixB d) = o at C
        have HO := hid ho
        have HEN := hid (show ((([ent 1 (intB 3 ++ textB t)] ++ cs.map (fun c => ent 2 (ptsB c))) ++ ps.map (fun d => ent 3 (profB d))) ++ (fs.take k).map (fun d => ent 4 (fixB d))).length ≤ 2000 from by have := HN.out; simp only [List.length_append, List.length_map, List.length_take, List.length_cons, List.length_nil]; omega)
        obtain ⟨EL, hEL⟩ : ∃ EL, (([ent 1 (intB 3 ++ textB t)] ++ cs.map (fun c => ent 2 (ptsB c))) ++ ps.map (fun d => ent 3 (profB d))) ++ (fs.take k).map (fun d => ent 4 (fixB d)) = EL := ⟨_, rfl⟩
        have HEL := hid hEL
        rw [hEL] at hh HEN
        clear hEL
        clear hd hm hc hcw hk hlt ho
        go_wp2_with fail
        refine (C.out _ hbw).mono ?_
        rintro e w2 ⟨rfl, hb2⟩
        have R2 := hid (hh.out.run hb2)
        clear hb2 x1 x2 x3 x4 x5 x6 e0 e1 e2 e3 e4 e5 e6 hbw C
        go_wp2_with (at_builtin; refine wpList_append_lies _ rfl _ _ 38 rfl w.heap.size 98 i0 _ 2 24 Tryz.underlying38 hi hz0 hz1 hz2 rfl (by decide) _ _ _ rfl (R2.out.alloc (.cells #[.int .i64 4, .string o] 98)).1 ⟨w2.heap.size, 0, none⟩ 1 1 [.int .i64 4, .string o] rfl rfl zbv (zbt _ _) (by decide) (by unfold maxLen; have := HEN.out; omega) (by have := HEN.out; omega) (by have := R2.out.2.2.size; simp; omega) (w2.heap.size + 1) (by simp) ?_)
        intro gg cp3 w3 hown3 hgrow _ _
        have R3 := hid (zbx (kd := 4) (R2.out.alloc _) hown3 rfl hgrow)
        clear hown3 hgrow
        go_wp2
        go_roundw
        case rel => exact ⟨k + 1, by omega, by go_num, hid (by rw [HT.out, List.map_append, ← List.append_assoc, HEL.out]; have := R3.out; rw [← HO.out] at this; exact this)⟩
        case measure => simp [intOf]; omega
      obtain rfl : k = fs.length := by omega
      have SS3 := hid (show RSt w #[.string t, .slice a1 cs.length c1, .slice a2 ps.length c2, .slice a3 fs.length c3, .slice a4 gs.length c4, .slice a5 pls.length c5, .slice a6 ls.length c6, .slice a7 ss.length c7, .slice a8 es.length c8] ((([ent 1 (intB 3 ++ textB t)] ++ cs.map (fun c => ent 2 (ptsB c))) ++ ps.map (fun d => ent 3 (profB d))) ++ fs.map (fun d => ent 4 (fixB d))) u3 wr from by have := hh.out; rwa [List.take_length] at this)
      clear hh hk hlt
      rename World => wx3
      obtain ⟨x1, x2, x3, x4, x5, x6⟩ := zaa SS3.out.2.1
      go_wp2
      clear x1 x2 x3 x4 x5 x6
      go_loopw [3, 7, 8] (fun v i _ wr => ∃ k : Nat, k ≤ gs.length ∧ i = .int .i64 k ∧ Hid (RSt w #[.string t, .slice a1 cs.length c1, .slice a2 ps.length c2, .slice a3 fs.length c3, .slice a4 gs.length c4, .slice a5 pls.length c5, .slice a6 ls.length c6, .slice a7 ss.length c7, .slice a8 es.length c8] (((([ent 1 (intB 3 ++ textB t)] ++ cs.map (fun c => ent 2 (ptsB c))) ++ ps.map (fun d => ent 3 (profB d))) ++ fs.map (fun d => ent 4 (fixB d))) ++ (gs.take k).map (fun d => ent 5 (grpB d))) v wr)) (fun _ i _ _ => gs.length - (intOf i).toNat)
      case atStart => exact ⟨0, Nat.zero_le _, rfl, hid (by simpa using SS3.out)⟩
      case round =>
        clear SS3
        obtain ⟨k, hk, rfl, hh⟩ := hrel
        obtain ⟨x1, x2, x3, x4, x5, x6⟩ := zaa hh.out.2.1
        by_cases hlt : k < gs.length
        · have hlt3 : (k : Int) < (gs.length : Int) := by omega
          have hbw : Below w.heap.size w wr := hh.out.2.2
          obtain ⟨d, hd⟩ : ∃ d, gs[k]? = some d := ⟨_, List.getElem?_eq_getElem hlt⟩
          have hm := List.mem_of_getElem? hd
          obtain ⟨y, g, off, cap', he, hg, hc⟩ := HV4.out.at_ (by decide) zbf hd
          cases he
          have hRw := (hc w (Below.refl _ _)).2
          have hcw := (hc wr hbw).1
          obtain ⟨ya, yc, e9⟩ := hRw.1.shape
          simp only at e9
          subst e9
          have e0 : wr.cell? ⟨g, off + k * 2, none⟩ = some (.int .i64 d.num) := hcw 0 (by decide)
          have e1 : wr.cell? ⟨g, off + k * 2 + 1, none⟩ = some (.slice ya d.chs.length yc) := hcw 1 (by decide)
          have HD := hid (show ListAt 1 intC w (.slice ya d.chs.length yc) d.chs from hRw.1)
          have hI2 : Ints64 [d.num, (d.chs.length : Int)] := fun n hn => by
            have := HS.out.grps.2 d hm
            simp only [List.mem_cons, List.not_mem_nil, or_false] at hn
            rcases hn with rfl | rfl
            · exact one64 (H64.out.grps d hm).1
            (try simp only at this); omega
          have hcl : (d.chs.length : Int) ≤ 256 := by have := HS.out.grps.2 d hm; (try simp only at this); omega
          have HT := hid (zaf hd)
          have HEN := hid (show (((([ent 1 (intB 3 ++ textB t)] ++ cs.map (fun c => ent 2 (ptsB c))) ++ ps.map (fun d => ent 3 (profB d))) ++ fs.map (fun d => ent 4 (fixB d))) ++ (gs.take k).map (fun d => ent 5 (grpB d))).length ≤ 2000 from by have := HN.out; simp only [List.length_append, List.length_map, List.length_take, List.length_cons, List.length_nil]; omega)
          obtain ⟨EL, hEL⟩ : ∃ EL, ((([ent 1 (intB 3 ++ textB t)] ++ cs.map (fun c => ent 2 (ptsB c))) ++ ps.map (fun d => ent 3 (profB d))) ++ fs.map (fun d => ent 4 (fixB d))) ++ (gs.take k).map (fun d => ent 5 (grpB d)) = EL := ⟨_, rfl⟩
          have HEL := hid hEL
          rw [hEL] at hh HEN
          clear hEL
          obtain ⟨W5, hW5⟩ : ∃ W, wr.alloc (.cells #[.int .i64 d.num, .slice ya d.chs.length yc] 147) = W := ⟨_, rfl⟩
          have p1 : RowAt W5 wr.heap.size 147 #[.int .i64 d.num, .slice ya d.chs.length yc] := by rw [← hW5]; exact RowAt.new _ _ _
          have R5 := hid (And.intro (show RSt w _ _ _ W5 from by rw [← hW5]; exact hh.out.alloc _) p1)
          have hs5 := R5.out.1.2.2.size
          have HK := hid (fun (W : World) (hW : Below W5.heap.size W5 W) => (show W.cell? ⟨wr.heap.size, 0, none⟩ = some (.int .i64 d.num) ∧ W.cell? ⟨wr.heap.size, 1, none⟩ = some (.slice ya d.chs.length yc) from by
            obtain ⟨f, _⟩ := zaa (R5.out.2.run hW)
            exact ⟨f 0, f 1⟩))
          obtain ⟨h0, h1⟩ := HK.out W5 (Below.refl _ _)
          have C1 := hid (fun W g hg => zcn g d.num (d.chs.length : Int) W hg hI2)
          have C2 := hid (fun (W : World) (hb : Below W5.heap.size W5 W) => zxg (.slice ya d.chs.length yc) d.chs W ((HD.out.run R5.out.1.2.2).run hb) (H64.out.grps d hm).2 (HS.out.grps.2 d hm))
          have hlen := zfx (H64.out.grps d hm).1 (H64.out.grps d hm).2 (HS.out.grps.2 d hm)
          have hgb : grpB d = intsB [d.num, (d.chs.length : Int)] ++ d.chs.flatMap intB := by simp [grpB, intsB]
          rw [hgb, List.length_append] at hlen
          have z1 : ((str (intsB [d.num, (d.chs.length : Int)])).size : Int) ≤ 1000000000 := zae (by omega)
          have z2 : ((str (d.chs.flatMap intB)).size : Int) ≤ 1000000000 := zae (by omega)
          have HX := hid (show str (intsB [d.num, (d.chs.length : Int)]) ++ str (d.chs.flatMap intB) = str (grpB d) from by rw [zas, hgb])
          generalize str (intsB [d.num, (d.chs.length : Int)]) = x at z1 C1 HX
          generalize str (d.chs.flatMap intB) = y at z2 C2 HX
          have su1a : ¬ 9223372036854775807 < (x.size : Int) + (y.size : Int) := by omega
          have su1b : ¬ 9223372036854775807 < x.size + y.size := by omega
          clear hd hm hc hcw hk hlt hRw hI2 hlen hgb p1
          go_wp2_with fail
          clear x1 x2 x3 x4 x5 x6 e0 e1 hbw hW5
          refine wp_region_noPanic ?_
          refine wp_region_held_drew (S := (fun w' => w'.cell? ⟨wr.heap.size, 0, none⟩ = some (.int .i64 d.num) ∧ w'.cell? ⟨wr.heap.size, 1, none⟩ = some (.slice ya d.chs.length yc))) (by kernel_rfl) ?_ (fun hHeld => ?_)
          · exact HK.out _ (Below.refl _ _).drew
          refine tk 0 ?_
          refine tk 1 ?_
          refine tk 2 ?_
          refine tk 3 ?_
          refine tk 4 ?_
          refine tk 5 ?_
          refine tk 8 ?_
          refine tk 9 ?_
          refine wpAnyH_ready (rs := [6]) (by kernel_rfl) (by simp) ?_
          refine AllReadyH.cons (o := _) rfl (fun K hK => ?_) AllReadyH.nil
          go_simp
          skip
          refine hK.out _ _ ?_ (fun hHeld => ?_)
          · exact HK.out _ bel
          clear hK K
          (try simp only [Act.put, List.setIfInBounds_toArray, List.set_cons_zero, List.set_cons_succ, List.getElem_toArray, List.getElem_cons_succ, List.getElem_cons_zero])
          refine wpAnyH_ready (rs := [7]) (by kernel_rfl) (by simp) ?_
          refine AllReadyH.cons (o := _) rfl (fun K hK => ?_) AllReadyH.nil
          go_simp
          (go_at_call 117; (with_reducible refine (C1.out _ _ rwt).mono ?_); rintro e w6 ⟨rfl, hb6⟩; have hs6 := hb6.size; (try simp at hs6))
          refine hK.out _ _ ?_ (fun hHeld => ?_)
          · exact HK.out _ bel
          clear hK K
          (try simp only [Act.put, List.setIfInBounds_toArray, List.set_cons_zero, List.set_cons_succ, List.getElem_toArray, List.getElem_cons_succ, List.getElem_cons_zero])
          refine wpAnyH_ready (rs := [10]) (by kernel_rfl) (by simp) ?_
          refine AllReadyH.cons (o := _) rfl (fun K hK => ?_) AllReadyH.nil
          go_simp
          (go_at_call 117; (with_reducible refine (C2.out _ bel).mono ?_); rintro e w7 ⟨rfl, hb7⟩; have hb57 : Below W5.heap.size W5 w7 := bel; have R7 := hid (R5.out.1.run hb57); have hs7 := hb57.size)
          refine hK.out _ _ ?_ (fun hHeld => ?_)
          · exact HK.out _ hb57
          clear hK K
          (try simp only [Act.put, List.setIfInBounds_toArray, List.set_cons_zero, List.set_cons_succ, List.getElem_toArray, List.getElem_cons_succ, List.getElem_cons_zero])
          refine tk 11 ?_
          refine tk 12 ?_
          refine wpAnyH_ready (rs := [13]) (by kernel_rfl) (by simp) ?_
          refine AllReadyH.cons (o := _) rfl (fun K hK => ?_) AllReadyH.nil
          go_simp
          skip
          refine hK.out _ _ ?_ (fun hHeld => ?_)
          · exact HK.out _ bel
          clear hK K
          (try simp only [Act.put, List.setIfInBounds_toArray, List.set_cons_zero, List.set_cons_succ, List.getElem_toArray, List.getElem_cons_succ, List.getElem_cons_zero])
          refine wpAnyH_ready (rs := [14]) (by kernel_rfl) (by simp) ?_
          refine AllReadyH.cons (o := _) rfl (fun K hK => ?_) AllReadyH.nil
          (refine step_append_lies _ (by rfl) _ _ _ (by rfl) w.heap.size 98 i0 _ 2 24 Tryz.underlying38 hi hz0 hz1 hz2 rfl (by decide) u3 _ _ (by rfl) (R7.out.alloc (.cells #[.int .i64 5, .string (x ++ y)] 98)).1 ⟨w7.heap.size, 0, none⟩ 1 1 [.int .i64 5, .string (x ++ y)] (by rfl) (by rfl) zbv (zbt _ _) (by decide) (by unfold maxLen; have := HEN.out; omega) (by have := HEN.out; omega) (by have := R7.out.2.2.size; simp; omega) (w7.heap.size + 1) (by simp) ?_; intro gg cp3 w3 hown3 hgrow _ _; have R3 := hid (zbx (kd := 5) (R7.out.alloc _) hown3 rfl hgrow); have r3 := zdc (R7.out.alloc _).1 ((R5.out.2.run hb57).alloc _) (by decide) hgrow; have hS3 : w3.cell? ⟨wr.heap.size, 0, none⟩ = some (.int .i64 d.num) ∧ w3.cell? ⟨wr.heap.size, 1, none⟩ = some (.slice ya d.chs.length yc) := ⟨(zaa r3).1 0, (zaa r3).1 1⟩; clear r3; clear hown3 hgrow)
          refine hK.out _ _ ?_ (fun hHeld => ?_)
          · exact hS3
          clear hK K
          (try simp only [Act.put, List.setIfInBounds_toArray, List.set_cons_zero, List.set_cons_succ, List.getElem_toArray, List.getElem_cons_succ, List.getElem_cons_zero])
          refine tk 15 ?_
          refine wpAnyH_done (by kernel_rfl) ?_ _
          refine NoPanic.normal ?_
          go_wp2
          go_roundw
          case rel => exact ⟨k + 1, by omega, by go_num, hid (by rw [HT.out, List.map_append, ← List.append_assoc, HEL.out]; have := R3.out; rw [HX.out] at this; exact this)⟩
          case measure => simp [intOf]; omega
        obtain rfl : k = gs.length := by omega
        have SS4 := hid (show RSt w #[.string t, .slice a1 cs.length c1, .slice a2 ps.length c2, .slice a3 fs.length c3, .slice a4 gs.length c4, .slice a5 pls.length c5, .slice a6 ls.length c6, .slice a7 ss.length c7, .slice a8 es.length c8] (((([ent 1 (intB 3 ++ textB t)] ++ cs.map (fun c => ent 2 (ptsB c))) ++ ps.map (fun d => ent 3 (profB d))) ++ fs.map (fun d => ent 4 (fixB d))) ++ gs.map (fun d => ent 5 (grpB d))) u3 wr from by have := hh.out; rwa [List.take_length] at this)
        clear hh hk hlt
        rename World => wx4
        obtain ⟨x1, x2, x3, x4, x5, x6⟩ := zaa SS4.out.2.1
        go_wp2
        clear x1 x2 x3 x4 x5 x6
        go_loopw [3, 9] (fun v i wr => ∃ k : Nat, k ≤ pls.length ∧ i = .int .i64 k ∧ Hid (RSt w #[.string t, .slice a1 cs.length c1, .slice a2 ps.length c2, .slice a3 fs.length c3, .slice a4 gs.length c4, .slice a5 pls.length c5, .slice a6 ls.length c6, .slice a7 ss.length c7, .slice a8 es.length c8] ((((([ent 1 (intB 3 ++ textB t)] ++ cs.map (fun c => ent 2 (ptsB c))) ++ ps.map (fun d => ent 3 (profB d))) ++ fs.map (fun d => ent 4 (fixB d))) ++ gs.map (fun d => ent 5 (grpB d))) ++ (pls.take k).map (fun d => ent 6 (palB d))) v wr)) (fun _ i _ => pls.length - (intOf i).toNat)
        case atStart => exact ⟨0, Nat.zero_le _, rfl, hid (by simpa using SS4.out)⟩
        case round =>
          clear SS4
          obtain ⟨k, hk, rfl, hh⟩ := hrel
          obtain ⟨x1, x2, x3, x4, x5, x6⟩ := zaa hh.out.2.1
          by_cases hlt : k < pls.length
          · have hlt3 : (k : Int) < (pls.length : Int) := by omega
            have hbw : Below w.heap.size w wr := hh.out.2.2
            obtain ⟨d, hd⟩ : ∃ d, pls[k]? = some d := ⟨_, List.getElem?_eq_getElem hlt⟩
            have hm := List.mem_of_getElem? hd
            obtain ⟨y, g, off, cap', he, hg, hc⟩ := HV5.out.at_ (by decide) zbe hd
            cases he
            have hRw := (hc w (Below.refl _ _)).2
            have hcw := (hc wr hbw).1
            obtain ⟨ya, yc, e9⟩ := hRw.shape
            simp only at e9
            subst e9
            have e0 : wr.cell? ⟨g, off + k * 2, none⟩ = some (.int .i64 d.num) := hcw 0 (by decide)
            have e1 : wr.cell? ⟨g, off + k * 2 + 1, none⟩ = some (.slice ya d.hues.length yc) := hcw 1 (by decide)
            have C := hid (fun (W : World) (hW : Below w.heap.size w W) => zqr d _ W (hRw.run hW) (H64.out.pals d hm).1 (H64.out.pals d hm).2 (HS.out.pals.2 d hm))
            simp only [palA] at C
            have HT := hid (zaf hd)
            generalize ho : str (palB d) = o at C
            have HO := hid ho
            have HEN := hid (show ((((([ent 1 (intB 3 ++ textB t)] ++ cs.map (fun c => ent 2 (ptsB c))) ++ ps.map (fun d => ent 3 (profB d))) ++ fs.map (fun d => ent 4 (fixB d))) ++ gs.map (fun d => ent 5 (grpB d))) ++ (pls.take k).map (fun d => ent 6 (palB d))).length ≤ 2000 from by have := HN.out; simp only [List.length_append, List.length_map, List.length_take, List.length_cons, List.length_nil]; omega)
            obtain ⟨EL, hEL⟩ : ∃ EL, (((([ent 1 (intB 3 ++ textB t)] ++ cs.map (fun c => ent 2 (ptsB c))) ++ ps.map (fun d => ent 3 (profB d))) ++ fs.map (fun d => ent 4 (fixB d))) ++ gs.map (fun d => ent 5 (grpB d))) ++ (pls.take k).map (fun d => ent 6 (palB d)) = EL := ⟨_, rfl⟩
            have HEL := hid hEL
            rw [hEL] at hh HEN
            clear hEL
            clear hd hm hc hcw hk hlt ho hRw
            go_wp2_with fail
            refine (C.out _ hbw).mono ?_
            rintro e w2 ⟨rfl, hb2⟩
            have R2 := hid (hh.out.run hb2)
            clear hb2 x1 x2 x3 x4 x5 x6 e0 e1 hbw C
            go_wp2_with (at_builtin; refine wpList_append_lies _ rfl _ _ 38 rfl w.heap.size 98 i0 _ 2 24 Tryz.underlying38 hi hz0 hz1 hz2 rfl (by decide) _ _ _ rfl (R2.out.alloc (.cells #[.int .i64 6, .string o] 98)).1 ⟨w2.heap.size, 0, none⟩ 1 1 [.int .i64 6, .string o] rfl rfl zbv (zbt _ _) (by decide) (by unfold maxLen; have := HEN.out; omega) (by have := HEN.out; omega) (by have := R2.out.2.2.size; simp; omega) (w2.heap.size + 1) (by simp) ?_)
            intro gg cp3 w3 hown3 hgrow _ _
            have R3 := hid (zbx (kd := 6) (R2.out.alloc _) hown3 rfl hgrow)
            clear hown3 hgrow
            go_wp2
            go_roundw
            case rel => exact ⟨k + 1, by omega, by go_num, hid (by rw [HT.out, List.map_append, ← List.append_assoc, HEL.out]; have := R3.out; rw [← HO.out] at this; exact this)⟩
            case measure => simp [intOf]; omega
          obtain rfl : k = pls.length := by omega
          have SS5 := hid (show RSt w #[.string t, .slice a1 cs.length c1, .slice a2 ps.length c2, .slice a3 fs.length c3, .slice a4 gs.length c4, .slice a5 pls.length c5, .slice a6 ls.length c6, .slice a7 ss.length c7, .slice a8 es.length c8] ((((([ent 1 (intB 3 ++ textB t)] ++ cs.map (fun c => ent 2 (ptsB c))) ++ ps.map (fun d => ent 3 (profB d))) ++ fs.map (fun d => ent 4 (fixB d))) ++ gs.map (fun d => ent 5 (grpB d))) ++ pls.map (fun d => ent 6 (palB d))) u3 wr from by have := hh.out; rwa [List.take_length] at this)
          clear hh hk hlt
          rename World => wx5
          obtain ⟨x1, x2, x3, x4, x5, x6⟩ := zaa SS5.out.2.1
          go_wp2
          clear x1 x2 x3 x4 x5 x6
          go_loopw [3, 10, 11] (fun v i _ wr => ∃ k : Nat, k ≤ ls.length ∧ i = .int .i64 k ∧ Hid (RSt w #[.string t, .slice a1 cs.length c1, .slice a2 ps.length c2, .slice a3 fs.length c3, .slice a4 gs.length c4, .slice a5 pls.length c5, .slice a6 ls.length c6, .slice a7 ss.length c7, .slice a8 es.length c8] (((((([ent 1 (intB 3 ++ textB t)] ++ cs.map (fun c => ent 2 (ptsB c))) ++ ps.map (fun d => ent 3 (profB d))) ++ fs.map (fun d => ent 4 (fixB d))) ++ gs.map (fun d => ent 5 (grpB d))) ++ pls.map (fun d => ent 6 (palB d))) ++ (ls.take k).flatMap lstEs) v wr)) (fun _ i _ _ => ls.length - (intOf i).toNat)
          case atStart => exact ⟨0, Nat.zero_le _, rfl, hid (by simpa using SS5.out)⟩
          case round =>
            clear SS5
            obtain ⟨k, hk, rfl, hh⟩ := hrel
            obtain ⟨x1, x2, x3, x4, x5, x6⟩ := zaa hh.out.2.1
            by_cases hlt : k < ls.length
            · have hlt3 : (k : Int) < (ls.length : Int) := by omega
              have hbw : Below w.heap.size w wr := hh.out.2.2
              obtain ⟨d, hd⟩ : ∃ d, ls[k]? = some d := ⟨_, List.getElem?_eq_getElem hlt⟩
              have hm := List.mem_of_getElem? hd
              obtain ⟨y, g, off, cap', he, hg, hc⟩ := HV6.out.at_ (by decide) zbz hd
              cases he
              have hRw := (hc w (Below.refl _ _)).2
              have hcw := (hc wr hbw).1
              obtain ⟨ya, yc, e9⟩ := hRw.shape
              simp only at e9
              subst e9
              have e0 : wr.cell? ⟨g, off + k * 3, none⟩ = some (.int .i64 d.num) := hcw 0 (by decide)
              have e1 : wr.cell? ⟨g, off + k * 3 + 1, none⟩ = some (.int .i64 d.pri) := hcw 1 (by decide)
              have e2 : wr.cell? ⟨g, off + k * 3 + 2, none⟩ = some (.slice ya d.cues.length yc) := hcw 2 (by decide)
              have hbs := hbw.size
              have HT := hid (zaf hd)
              have HD := hid (And.intro hm (And.intro hRw hc))
              have hdl : (d.cues.length : Int) ≤ 64 := by have := (HS.out.lists.2 d hm).1; (try simp only at this); omega
              have HDL := hid (show d.cues.length ≤ 64 from (HS.out.lists.2 d hm).1)
              have HLN := hid (show (((((([ent 1 (intB 3 ++ textB t)] ++ cs.map (fun c => ent 2 (ptsB c))) ++ ps.map (fun d => ent 3 (profB d))) ++ fs.map (fun d => ent 4 (fixB d))) ++ gs.map (fun d => ent 5 (grpB d))) ++ pls.map (fun d => ent 6 (palB d))) ++ (ls.take k).flatMap lstEs).length ≤ 1000 from by have := HN.out; have := zcx (l := ls.take k) (fun x hx => (HS.out.lists.2 x (List.mem_of_mem_take hx)).1); have := List.length_take_le k ls; (try have := HDL.out); simp only [List.length_append, List.length_map, List.length_cons, List.length_nil, List.length_take (l := d.cues)]; omega)
              have HEN := hid (show (((((([ent 1 (intB 3 ++ textB t)] ++ cs.map (fun c => ent 2 (ptsB c))) ++ ps.map (fun d => ent 3 (profB d))) ++ fs.map (fun d => ent 4 (fixB d))) ++ gs.map (fun d => ent 5 (grpB d))) ++ pls.map (fun d => ent 6 (palB d))) ++ (ls.take k).flatMap lstEs).length ≤ 2000 from by have := HN.out; have := zcx (l := ls.take k) (fun x hx => (HS.out.lists.2 x (List.mem_of_mem_take hx)).1); have := List.length_take_le k ls; (try have := HDL.out); simp only [List.length_append, List.length_map, List.length_cons, List.length_nil, List.length_take (l := d.cues)]; omega)
              obtain ⟨EL, hEL⟩ : ∃ EL, ((((([ent 1 (intB 3 ++ textB t)] ++ cs.map (fun c => ent 2 (ptsB c))) ++ ps.map (fun d => ent 3 (profB d))) ++ fs.map (fun d => ent 4 (fixB d))) ++ gs.map (fun d => ent 5 (grpB d))) ++ pls.map (fun d => ent 6 (palB d))) ++ (ls.take k).flatMap lstEs = EL := ⟨_, rfl⟩
              have HEL := hid hEL
              rw [hEL] at hh HEN
              clear hEL
              have HK := hid (fun (w' : World) (hr : RowAt w' w.heap.size 31 #[.string t, .slice a1 cs.length c1, .slice a2 ps.length c2, .slice a3 fs.length c3, .slice a4 gs.length c4, .slice a5 pls.length c5, .slice (some ⟨g, off, none⟩) ls.length c6, .slice a7 ss.length c7, .slice a8 es.length c8]) (hb : Below w.heap.size w w') => (show w'.cell? ⟨w.heap.size, 6, none⟩ = some (.slice (some ⟨g, off, none⟩) ls.length c6) ∧ w'.cell? ⟨g, off + k * 3, none⟩ = some (.int .i64 d.num) ∧ w'.cell? ⟨g, off + k * 3 + 1, none⟩ = some (.int .i64 d.pri) from ⟨(zaa hr).1 6, (HD.out.2.2 w' hb).1 0 (by decide), (HD.out.2.2 w' hb).1 1 (by decide)⟩))
              have C1 := hid (fun W g hg => zcn g d.num d.pri W hg (H64.out.lists d hm).1)
              obtain ⟨o, ho⟩ : ∃ o, str (intsB [d.num, d.pri]) = o := ⟨_, rfl⟩
              rw [ho] at C1
              have HO := hid (show str (lstB d) = o from ho)
              clear hd hm hc hcw hk hlt hRw ho
              go_wp2_with fail
              clear x1 x2 x3 x4 x5 x6 e0 e1 e2
              refine wp_region_noPanic ?_
              refine wp_region_held_drew (S := (fun w' => w'.cell? ⟨w.heap.size, 6, none⟩ = some (.slice (some ⟨g, off, none⟩) ls.length c6) ∧ w'.cell? ⟨g, off + k * 3, none⟩ = some (.int .i64 d.num) ∧ w'.cell? ⟨g, off + k * 3 + 1, none⟩ = some (.int .i64 d.pri))) (by kernel_rfl) ?_ (fun hHeld => ?_)
              · exact HK.out _ hh.out.2.1.drew hh.out.2.2.drew
              refine tk 0 ?_
              refine tk 1 ?_
              refine tk 2 ?_
              refine tk 3 ?_
              refine tk 4 ?_
              refine tk 5 ?_
              refine tk 6 ?_
              refine tk 7 ?_
              refine tk 8 ?_
              refine tk 9 ?_
              refine tk 10 ?_
              refine tk 11 ?_
              refine tk 12 ?_
              refine wpAnyH_ready (rs := [13]) (by kernel_rfl) (by simp) ?_
              refine AllReadyH.cons (o := _) rfl (fun K hK => ?_) AllReadyH.nil
              go_simp
              skip
              refine hK.out _ _ ?_ (fun hHeld => ?_)
              · exact HK.out _ ((hh.out.2.1.drew).alloc _) (hh.out.2.2.drew.alloc (by show w.heap.size ≤ wr.heap.size; exact hbs) _)
              clear hK K
              (try simp only [Act.put, List.setIfInBounds_toArray, List.set_cons_zero, List.set_cons_succ, List.getElem_toArray, List.getElem_cons_succ, List.getElem_cons_zero])
              refine wpAnyH_ready (rs := [14]) (by kernel_rfl) (by simp) ?_
              refine AllReadyH.cons (o := _) rfl (fun K hK => ?_) AllReadyH.nil
              go_simp
              (go_at_call 117; (with_reducible refine (C1.out _ _ rwt).mono ?_); rintro e w7 ⟨rfl, hb7⟩; have hb57 : Below wr.heap.size wr w7 := bel; have R7 := hid (hh.out.run hb57); have hs7 := hb57.size)
              refine hK.out _ _ ?_ (fun hHeld => ?_)
              · exact HK.out _ R7.out.2.1 R7.out.2.2
              clear hK K
              (try simp only [Act.put, List.setIfInBounds_toArray, List.set_cons_zero, List.set_cons_succ, List.getElem_toArray, List.getElem_cons_succ, List.getElem_cons_zero])
              refine tk 15 ?_
              refine wpAnyH_ready (rs := [16]) (by kernel_rfl) (by simp) ?_
              refine AllReadyH.cons (o := _) rfl (fun K hK => ?_) AllReadyH.nil
              go_simp
              skip
              refine hK.out _ _ ?_ (fun hHeld => ?_)
              · exact HK.out _ (R7.out.2.1.alloc _) (R7.out.2.2.alloc R7.out.2.2.size _)
              clear hK K
              (try simp only [Act.put, List.setIfInBounds_toArray, List.set_cons_zero, List.set_cons_succ, List.getElem_toArray, List.getElem_cons_succ, List.getElem_cons_zero])
              refine wpAnyH_ready (rs := [17]) (by kernel_rfl) (by simp) ?_
              refine AllReadyH.cons (o := _) rfl (fun K hK => ?_) AllReadyH.nil
              (refine step_append_lies _ (by rfl) _ _ _ (by rfl) w.heap.size 98 i0 _ 2 24 Tryz.underlying38 hi hz0 hz1 hz2 rfl (by decide) u3 _ _ (by rfl) (R7.out.alloc (.cells #[.int .i64 7, .string o] 98)).1 ⟨w7.heap.size, 0, none⟩ 1 1 [.int .i64 7, .string o] (by rfl) (by rfl) zbv (zbt _ _) (by decide) (by unfold maxLen; have := HEN.out; omega) (by have := HEN.out; omega) (by have := R7.out.2.2.size; simp; omega) (w7.heap.size + 1) (by simp) ?_; intro gg cp3 w3 hown3 hgrow _ _; have R3 := hid (zbx (kd := 7) (R7.out.alloc _) hown3 rfl hgrow); clear hown3 hgrow)
              refine hK.out _ _ ?_ (fun hHeld => ?_)
              · exact HK.out _ R3.out.2.1 R3.out.2.2
              clear hK K
              (try simp only [Act.put, List.setIfInBounds_toArray, List.set_cons_zero, List.set_cons_succ, List.getElem_toArray, List.getElem_cons_succ, List.getElem_cons_zero])
              refine tk 18 ?_
              refine wpAnyH_done (by kernel_rfl) ?_ _
              refine NoPanic.normal ?_
              have R4 := hid (show RSt w #[.string t, .slice a1 cs.length c1, .slice a2 ps.length c2, .slice a3 fs.length c3, .slice a4 gs.length c4, .slice a5 pls.length c5, .slice (some ⟨g, off, none⟩) ls.length c6, .slice a7 ss.length c7, .slice a8 es.length c8] (EL ++ [ent 7 (lstB d)]) _ w3 from by have := R3.out; rw [← HO.out] at this; exact this)
              obtain ⟨EM, hEM⟩ : ∃ EM, EL ++ [ent 7 (lstB d)] = EM := ⟨_, rfl⟩
              have HEM := hid hEM
              have HMN := hid (show EM.length ≤ 1001 from by rw [← hEM, ← HEL.out]; have := HLN.out; rw [List.length_append]; simp only [List.length_cons, List.length_nil]; omega)
              rw [hEM] at R4
              clear hEM R3 C1 hbw hbs
              obtain ⟨x1, x2, x3, x4, x5, x6⟩ := zaa R4.out.2.1
              have g2c := (HD.out.2.2 w3 R4.out.2.2).1 2 (by decide)
              simp only [lstA] at g2c
              rename World => wy
              go_wp2
              clear x1 x2 x3 x4 x5 x6 g2c
              go_loopw [3, 11] (fun v i wr => ∃ j : Nat, j ≤ d.cues.length ∧ i = .int .i64 j ∧ Hid (RSt w #[.string t, .slice a1 cs.length c1, .slice a2 ps.length c2, .slice a3 fs.length c3, .slice a4 gs.length c4, .slice a5 pls.length c5, .slice (some ⟨g, off, none⟩) ls.length c6, .slice a7 ss.length c7, .slice a8 es.length c8] (EM ++ (d.cues.take j).map (fun c => ent 8 (cueB c))) v wr)) (fun _ i _ => d.cues.length - (intOf i).toNat)
              case atStart => exact ⟨0, Nat.zero_le _, rfl, hid (by simpa using R4.out)⟩
              case round =>
                obtain ⟨j, hj, rfl, hjj⟩ := hrel
                obtain ⟨x1, x2, x3, x4, x5, x6⟩ := zaa hjj.out.2.1
                have g2c : wr.cell? ⟨g, off + k * 3 + 2, none⟩ = some (.slice ya d.cues.length yc) := (HD.out.2.2 wr hjj.out.2.2).1 2 (by decide)
                have hbw : Below w.heap.size w wr := hjj.out.2.2
                by_cases hlt2 : j < d.cues.length
                · have hlt4 : (j : Int) < (d.cues.length : Int) := by omega
                  obtain ⟨c, hc⟩ : ∃ c, d.cues[j]? = some c := ⟨_, List.getElem?_eq_getElem hlt2⟩
                  have hcm := List.mem_of_getElem? hc
                  obtain ⟨⟨ca, cb⟩, g2, off2, cap2, he, hg2, hc2⟩ := RL.at_ (by decide) zbr HD.out.2.1 hc
                  cases he
                  have hRc := (hc2 w (Below.refl _ _)).2
                  have hcw := (hc2 wr hbw).1
                  obtain ⟨va, vac, e8⟩ := hRc.at_.moves.shape
                  obtain ⟨vb, vbc, e9⟩ := hRc.at_.parts.shape
                  simp only at e8 e9
                  subst e8 e9
                  have f0 : wr.cell? ⟨g2, off2 + j * 9, none⟩ = some (.string c.num) := hcw 0 (by decide)
                  have f1 : wr.cell? ⟨g2, off2 + j * 9 + 1, none⟩ = some (.string c.lab) := hcw 1 (by decide)
                  have f2 : wr.cell? ⟨g2, off2 + j * 9 + 2, none⟩ = some (.slice va c.moves.length vac) := hcw 2 (by decide)
                  have f3 : wr.cell? ⟨g2, off2 + j * 9 + 3, none⟩ = some (.slice vb c.parts.length vbc) := hcw 3 (by decide)
                  have f4 : wr.cell? ⟨g2, off2 + j * 9 + 4, none⟩ = some (.bool c.block) := hcw 4 (by decide)
                  have f5 : wr.cell? ⟨g2, off2 + j * 9 + 5, none⟩ = some (.bool c.mark) := hcw 5 (by decide)
                  have f6 : wr.cell? ⟨g2, off2 + j * 9 + 6, none⟩ = some (.int .i64 c.follow) := hcw 6 (by decide)
                  have f7 : wr.cell? ⟨g2, off2 + j * 9 + 7, none⟩ = some (.string c.link) := hcw 7 (by decide)
                  have f8 : wr.cell? ⟨g2, off2 + j * 9 + 8, none⟩ = some (.int .i64 c.loops) := hcw 8 (by decide)
                  have hsm := (HS.out.lists.2 d HD.out.1).2 c hcm
                  have h48 := (H64.out.lists d HD.out.1).2 c hcm
                  have C := hid (fun (W : World) (hW : Below w.heap.size w W) => ztp c _ _ W (hRc.at_.run hW) h48.ok (Nat.le_trans (zgc h48 hsm.2.num hsm.2.lab hsm.2.link hsm.2.moves hsm.2.parts) (by omega)))
                  have HT2 := hid (zaf hc)
                  generalize ho2 : str (cueB c) = o2 at C
                  have HO2 := hid ho2
                  have HEN := hid (show (EM ++ (d.cues.take j).map (fun c => ent 8 (cueB c))).length ≤ 2000 from by have := HMN.out; have := HDL.out; simp only [List.length_append, List.length_map, List.length_take]; omega)
                  obtain ⟨EN, hEN⟩ : ∃ EN, EM ++ (d.cues.take j).map (fun c => ent 8 (cueB c)) = EN := ⟨_, rfl⟩
                  have HENL := hid hEN
                  rw [hEN] at hjj HEN
                  clear hc hcm hc2 hcw hj hlt2 hRc hsm h48 ho2 hEN
                  go_wp2_with fail
                  refine (C.out _ hbw).mono ?_
                  rintro e w2 ⟨rfl, hb2⟩
                  have R2 := hid (hjj.out.run hb2)
                  clear hb2 x1 x2 x3 x4 x5 x6 f0 f1 f2 f3 f4 f5 f6 f7 f8 hbw C g2c
                  go_wp2_with (at_builtin; refine wpList_append_lies _ rfl _ _ 38 rfl w.heap.size 98 i0 _ 2 24 Tryz.underlying38 hi hz0 hz1 hz2 rfl (by decide) _ _ _ rfl (R2.out.alloc (.cells #[.int .i64 8, .string o2] 98)).1 ⟨w2.heap.size, 0, none⟩ 1 1 [.int .i64 8, .string o2] rfl rfl zbv (zbt _ _) (by decide) (by unfold maxLen; have := HEN.out; omega) (by have := HEN.out; omega) (by have := R2.out.2.2.size; simp; omega) (w2.heap.size + 1) (by simp) ?_)
                  intro gg cp3 w3 hown3 hgrow _ _
                  have R3 := hid (zbx (kd := 8) (R2.out.alloc _) hown3 rfl hgrow)
                  clear hown3 hgrow
                  go_wp2
                  go_roundw
                  case rel => exact ⟨j + 1, by omega, by go_num, hid (by rw [HT2.out, List.map_append, ← List.append_assoc, HENL.out]; have := R3.out; rw [← HO2.out] at this; exact this)⟩
                  case measure => simp [intOf]; omega
                obtain rfl : j = d.cues.length := by omega
                have HI := hid (show RSt w #[.string t, .slice a1 cs.length c1, .slice a2 ps.length c2, .slice a3 fs.length c3, .slice a4 gs.length c4, .slice a5 pls.length c5, .slice (some ⟨g, off, none⟩) ls.length c6, .slice a7 ss.length c7, .slice a8 es.length c8] (((((([ent 1 (intB 3 ++ textB t)] ++ cs.map (fun c => ent 2 (ptsB c))) ++ ps.map (fun d => ent 3 (profB d))) ++ fs.map (fun d => ent 4 (fixB d))) ++ gs.map (fun d => ent 5 (grpB d))) ++ pls.map (fun d => ent 6 (palB d))) ++ (ls.take (k + 1)).flatMap lstEs) u3 wr from by
                  have := hjj.out
                  rw [List.take_length] at this
                  rw [HT.out, List.flatMap_append, ← List.append_assoc, HEL.out]
                  rw [← HEM.out] at this
                  simpa [lstEs, List.append_assoc] using this)
                clear hjj
                go_wp2
                go_roundw
                case rel => exact ⟨k + 1, by omega, by go_num, HI⟩
                case measure => simp [intOf]; omega
            obtain rfl : k = ls.length := by omega
            have SS6 := hid (show RSt w #[.string t, .slice a1 cs.length c1, .slice a2 ps.length c2, .slice a3 fs.length c3, .slice a4 gs.length c4, .slice a5 pls.length c5, .slice a6 ls.length c6, .slice a7 ss.length c7, .slice a8 es.length c8] (((((([ent 1 (intB 3 ++ textB t)] ++ cs.map (fun c => ent 2 (ptsB c))) ++ ps.map (fun d => ent 3 (profB d))) ++ fs.map (fun d => ent 4 (fixB d))) ++ gs.map (fun d => ent 5 (grpB d))) ++ pls.map (fun d => ent 6 (palB d))) ++ ls.flatMap lstEs) u3 wr from by have := hh.out; rwa [List.take_length] at this)
            clear hh hk hlt
            rename World => wx6
            obtain ⟨x1, x2, x3, x4, x5, x6⟩ := zaa SS6.out.2.1
            go_wp2
            clear x1 x2 x3 x4 x5 x6
            go_loopw [3, 12] (fun v i wr => ∃ k : Nat, k ≤ ss.length ∧ i = .int .i64 k ∧ Hid (RSt w #[.string t, .slice a1 cs.length c1, .slice a2 ps.length c2, .slice a3 fs.length c3, .slice a4 gs.length c4, .slice a5 pls.length c5, .slice a6 ls.length c6, .slice a7 ss.length c7, .slice a8 es.length c8] ((((((([ent 1 (intB 3 ++ textB t)] ++ cs.map (fun c => ent 2 (ptsB c))) ++ ps.map (fun d => ent 3 (profB d))) ++ fs.map (fun d => ent 4 (fixB d))) ++ gs.map (fun d => ent 5 (grpB d))) ++ pls.map (fun d => ent 6 (palB d))) ++ ls.flatMap lstEs) ++ (ss.take k).map (fun d => ent 9 (subB d))) v wr)) (fun _ i _ => ss.length - (intOf i).toNat)
            case atStart => exact ⟨0, Nat.zero_le _, rfl, hid (by simpa using SS6.out)⟩
            case round =>
              clear SS6
              obtain ⟨k, hk, rfl, hh⟩ := hrel
              obtain ⟨x1, x2, x3, x4, x5, x6⟩ := zaa hh.out.2.1
              by_cases hlt : k < ss.length
              · have hlt3 : (k : Int) < (ss.length : Int) := by omega
                have hbw : Below w.heap.size w wr := hh.out.2.2
                obtain ⟨d, hd⟩ : ∃ d, ss[k]? = some d := ⟨_, List.getElem?_eq_getElem hlt⟩
                have hm := List.mem_of_getElem? hd
                obtain ⟨y, g, off, cap', he, hg, hc⟩ := HV7.out.at_ (by decide) zbm hd
                cases he
                have hRw := (hc w (Below.refl _ _)).2
                have hcw := (hc wr hbw).1
                obtain ⟨ya, yc, e9⟩ := hRw.shape
                simp only at e9
                subst e9
                have e0 : wr.cell? ⟨g, off + k * 4, none⟩ = some (.int .i64 d.num) := hcw 0 (by decide)
                have e1 : wr.cell? ⟨g, off + k * 4 + 1, none⟩ = some (.int .i64 d.pri) := hcw 1 (by decide)
                have e2 : wr.cell? ⟨g, off + k * 4 + 2, none⟩ = some (.bool d.inh) := hcw 2 (by decide)
                have e3 : wr.cell? ⟨g, off + k * 4 + 3, none⟩ = some (.slice ya d.gains.length yc) := hcw 3 (by decide)
                have C := hid (fun (W : World) (hW : Below w.heap.size w W) => zmt d _ W (hRw.run hW) (H64.out.subs d hm).1 (H64.out.subs d hm).2 (HS.out.subs.2 d hm))
                simp only [subA] at C
                have HT := hid (zaf hd)
                generalize ho : str (subB d) = o at C
                have HO := hid ho
                have HEN := hid (show ((((((([ent 1 (intB 3 ++ textB t)] ++ cs.map (fun c => ent 2 (ptsB c))) ++ ps.map (fun d => ent 3 (profB d))) ++ fs.map (fun d => ent 4 (fixB d))) ++ gs.map (fun d => ent 5 (grpB d))) ++ pls.map (fun d => ent 6 (palB d))) ++ ls.flatMap lstEs) ++ (ss.take k).map (fun d => ent 9 (subB d))).length ≤ 2000 from by have := HN.out; simp only [List.length_append, List.length_map, List.length_take, List.length_cons, List.length_nil]; omega)
                obtain ⟨EL, hEL⟩ : ∃ EL, (((((([ent 1 (intB 3 ++ textB t)] ++ cs.map (fun c => ent 2 (ptsB c))) ++ ps.map (fun d => ent 3 (profB d))) ++ fs.map (fun d => ent 4 (fixB d))) ++ gs.map (fun d => ent 5 (grpB d))) ++ pls.map (fun d => ent 6 (palB d))) ++ ls.flatMap lstEs) ++ (ss.take k).map (fun d => ent 9 (subB d)) = EL := ⟨_, rfl⟩
                have HEL := hid hEL
                rw [hEL] at hh HEN
                clear hEL
                clear hd hm hc hcw hk hlt ho hRw
                go_wp2_with fail
                refine (C.out _ hbw).mono ?_
                rintro e w2 ⟨rfl, hb2⟩
                have R2 := hid (hh.out.run hb2)
                clear hb2 x1 x2 x3 x4 x5 x6 e0 e1 e2 e3 hbw C
                go_wp2_with (at_builtin; refine wpList_append_lies _ rfl _ _ 38 rfl w.heap.size 98 i0 _ 2 24 Tryz.underlying38 hi hz0 hz1 hz2 rfl (by decide) _ _ _ rfl (R2.out.alloc (.cells #[.int .i64 9, .string o] 98)).1 ⟨w2.heap.size, 0, none⟩ 1 1 [.int .i64 9, .string o] rfl rfl zbv (zbt _ _) (by decide) (by unfold maxLen; have := HEN.out; omega) (by have := HEN.out; omega) (by have := R2.out.2.2.size; simp; omega) (w2.heap.size + 1) (by simp) ?_)
                intro gg cp3 w3 hown3 hgrow _ _
                have R3 := hid (zbx (kd := 9) (R2.out.alloc _) hown3 rfl hgrow)
                clear hown3 hgrow
                go_wp2
                go_roundw
                case rel => exact ⟨k + 1, by omega, by go_num, hid (by rw [HT.out, List.map_append, ← List.append_assoc, HEL.out]; have := R3.out; rw [← HO.out] at this; exact this)⟩
                case measure => simp [intOf]; omega
              obtain rfl : k = ss.length := by omega
              have SS7 := hid (show RSt w #[.string t, .slice a1 cs.length c1, .slice a2 ps.length c2, .slice a3 fs.length c3, .slice a4 gs.length c4, .slice a5 pls.length c5, .slice a6 ls.length c6, .slice a7 ss.length c7, .slice a8 es.length c8] ((((((([ent 1 (intB 3 ++ textB t)] ++ cs.map (fun c => ent 2 (ptsB c))) ++ ps.map (fun d => ent 3 (profB d))) ++ fs.map (fun d => ent 4 (fixB d))) ++ gs.map (fun d => ent 5 (grpB d))) ++ pls.map (fun d => ent 6 (palB d))) ++ ls.flatMap lstEs) ++ ss.map (fun d => ent 9 (subB d))) u3 wr from by have := hh.out; rwa [List.take_length] at this)
              clear hh hk hlt
              rename World => wx7
              obtain ⟨x1, x2, x3, x4, x5, x6⟩ := zaa SS7.out.2.1
              go_wp2
              clear x1 x2 x3 x4 x5 x6
              go_loopw [3, 13] (fun v i wr => ∃ k : Nat, k ≤ es.length ∧ i = .int .i64 k ∧ Hid (RSt w #[.string t, .slice a1 cs.length c1, .slice a2 ps.length c2, .slice a3 fs.length c3, .slice a4 gs.length c4, .slice a5 pls.length c5, .slice a6 ls.length c6, .slice a7 ss.length c7, .slice a8 es.length c8] (((((((([ent 1 (intB 3 ++ textB t)] ++ cs.map (fun c => ent 2 (ptsB c))) ++ ps.map (fun d => ent 3 (profB d))) ++ fs.map (fun d => ent 4 (fixB d))) ++ gs.map (fun d => ent 5 (grpB d))) ++ pls.map (fun d => ent 6 (palB d))) ++ ls.flatMap lstEs) ++ ss.map (fun d => ent 9 (subB d))) ++ (es.take k).map (fun d => ent 10 (effB d))) v wr)) (fun _ i _ => es.length - (intOf i).toNat)
              case atStart => exact ⟨0, Nat.zero_le _, rfl, hid (by simpa using SS7.out)⟩
              case round =>
                clear SS7
                obtain ⟨k, hk, rfl, hh⟩ := hrel
                obtain ⟨x1, x2, x3, x4, x5, x6⟩ := zaa hh.out.2.1
                by_cases hlt : k < es.length
                · have hlt3 : (k : Int) < (es.length : Int) := by omega
                  have hbw : Below w.heap.size w wr := hh.out.2.2
                  obtain ⟨d, hd⟩ : ∃ d, es[k]? = some d := ⟨_, List.getElem?_eq_getElem hlt⟩
                  have hm := List.mem_of_getElem? hd
                  obtain ⟨y, g, off, cap', he, hg, hc⟩ := HV8.out.at_ (by decide) zb0 hd
                  cases he
                  have hRw := (hc w (Below.refl _ _)).2
                  have hcw := (hc wr hbw).1
                  obtain ⟨ya, yc, e9⟩ := hRw.shape
                  simp only at e9
                  subst e9
                  have e0 : wr.cell? ⟨g, off + k * 6, none⟩ = some (.int .i64 d.num) := hcw 0 (by decide)
                  have e1 : wr.cell? ⟨g, off + k * 6 + 1, none⟩ = some (.int .i64 d.attr) := hcw 1 (by decide)
                  have e2 : wr.cell? ⟨g, off + k * 6 + 2, none⟩ = some (.slice ya d.wave.length yc) := hcw 2 (by decide)
                  have e3 : wr.cell? ⟨g, off + k * 6 + 3, none⟩ = some (.int .i64 d.per) := hcw 3 (by decide)
                  have e4 : wr.cell? ⟨g, off + k * 6 + 4, none⟩ = some (.int .i64 d.spr) := hcw 4 (by decide)
                  have e5 : wr.cell? ⟨g, off + k * 6 + 5, none⟩ = some (.int .i64 d.size) := hcw 5 (by decide)
                  have C := hid (fun (W : World) (hW : Below w.heap.size w W) => zsk d _ W (hRw.run hW) (H64.out.effs d hm).1 (H64.out.effs d hm).2.1 (H64.out.effs d hm).2.2 (HS.out.effs.2 d hm))
                  simp only [effA] at C
                  have HT := hid (zaf hd)
                  generalize ho : str (effB d) = o at C
                  have HO := hid ho
                  have HEN := hid (show (((((((([ent 1 (intB 3 ++ textB t)] ++ cs.map (fun c => ent 2 (ptsB c))) ++ ps.map (fun d => ent 3 (profB d))) ++ fs.map (fun d => ent 4 (fixB d))) ++ gs.map (fun d => ent 5 (grpB d))) ++ pls.map (fun d => ent 6 (palB d))) ++ ls.flatMap lstEs) ++ ss.map (fun d => ent 9 (subB d))) ++ (es.take k).map (fun d => ent 10 (effB d))).length ≤ 2000 from by have := HN.out; simp only [List.length_append, List.length_map, List.length_take, List.length_cons, List.length_nil]; omega)
                  obtain ⟨EL, hEL⟩ : ∃ EL, ((((((([ent 1 (intB 3 ++ textB t)] ++ cs.map (fun c => ent 2 (ptsB c))) ++ ps.map (fun d => ent 3 (profB d))) ++ fs.map (fun d => ent 4 (fixB d))) ++ gs.map (fun d => ent 5 (grpB d))) ++ pls.map (fun d => ent 6 (palB d))) ++ ls.flatMap lstEs) ++ ss.map (fun d => ent 9 (subB d))) ++ (es.take k).map (fun d => ent 10 (effB d)) = EL := ⟨_, rfl⟩
                  have HEL := hid hEL
                  rw [hEL] at hh HEN
                  clear hEL
                  clear hd hm hc hcw hk hlt ho hRw
                  go_wp2_with fail
                  refine (C.out _ hbw).mono ?_
                  rintro e w2 ⟨rfl, hb2⟩
                  have R2 := hid (hh.out.run hb2)
                  clear hb2 x1 x2 x3 x4 x5 x6 e0 e1 e2 e3 e4 e5 hbw C
                  go_wp2_with (at_builtin; refine wpList_append_lies _ rfl _ _ 38 rfl w.heap.size 98 i0 _ 2 24 Tryz.underlying38 hi hz0 hz1 hz2 rfl (by decide) _ _ _ rfl (R2.out.alloc (.cells #[.int .i64 10, .string o] 98)).1 ⟨w2.heap.size, 0, none⟩ 1 1 [.int .i64 10, .string o] rfl rfl zbv (zbt _ _) (by decide) (by unfold maxLen; have := HEN.out; omega) (by have := HEN.out; omega) (by have := R2.out.2.2.size; simp; omega) (w2.heap.size + 1) (by simp) ?_)
                  intro gg cp3 w3 hown3 hgrow _ _
                  have R3 := hid (zbx (kd := 10) (R2.out.alloc _) hown3 rfl hgrow)
                  clear hown3 hgrow
                  go_wp2
                  go_roundw
                  case rel => exact ⟨k + 1, by omega, by go_num, hid (by rw [HT.out, List.map_append, ← List.append_assoc, HEL.out]; have := R3.out; rw [← HO.out] at this; exact this)⟩
                  case measure => simp [intOf]; omega
                obtain rfl : k = es.length := by omega
                have SS8 := hid (show RSt w #[.string t, .slice a1 cs.length c1, .slice a2 ps.length c2, .slice a3 fs.length c3, .slice a4 gs.length c4, .slice a5 pls.length c5, .slice a6 ls.length c6, .slice a7 ss.length c7, .slice a8 es.length c8] (((((((([ent 1 (intB 3 ++ textB t)] ++ cs.map (fun c => ent 2 (ptsB c))) ++ ps.map (fun d => ent 3 (profB d))) ++ fs.map (fun d => ent 4 (fixB d))) ++ gs.map (fun d => ent 5 (grpB d))) ++ pls.map (fun d => ent 6 (palB d))) ++ ls.flatMap lstEs) ++ ss.map (fun d => ent 9 (subB d))) ++ es.map (fun d => ent 10 (effB d))) u3 wr from by have := hh.out; rwa [List.take_length] at this)
                clear hh hk hlt
                rename World => wx8
                have HE11 := hid (show ((((((((([ent 1 (intB 3 ++ textB t)] ++ cs.map (fun c => ent 2 (ptsB c))) ++ ps.map (fun d => ent 3 (profB d))) ++ fs.map (fun d => ent 4 (fixB d))) ++ gs.map (fun d => ent 5 (grpB d))) ++ pls.map (fun d => ent 6 (palB d))) ++ ls.flatMap lstEs) ++ ss.map (fun d => ent 9 (subB d))) ++ es.map (fun d => ent 10 (effB d)))).length ≤ 730 from by have := HN.out; simp only [List.length_append, List.length_map, List.length_cons, List.length_nil]; omega)
                obtain ⟨AL, hAL⟩ : ∃ AL, (((((((([ent 1 (intB 3 ++ textB t)] ++ cs.map (fun c => ent 2 (ptsB c))) ++ ps.map (fun d => ent 3 (profB d))) ++ fs.map (fun d => ent 4 (fixB d))) ++ gs.map (fun d => ent 5 (grpB d))) ++ pls.map (fun d => ent 6 (palB d))) ++ ls.flatMap lstEs) ++ ss.map (fun d => ent 9 (subB d))) ++ es.map (fun d => ent 10 (effB d))) = AL := ⟨_, rfl⟩
                rw [hAL] at SS8 HE11 HFL
                clear hAL
                have hal : (AL.length : Int) ≤ 730 := by have := HE11.out; omega
                obtain ⟨ua, uc, e8, _⟩ := zc9 SS8.out.1
                have CL := hid (fun W => zb4 (AL.length : Int) W (by omega) (by omega))
                generalize ho : str (intB (AL.length : Int)) = o at CL
                have HO := hid ho
                clear ho
                subst e8
                have HEN := HE11
                go_wp2_with fail
                refine (CL.out _).mono ?_
                rintro e w2 ⟨rfl, hb2⟩
                have R2 := hid (SS8.out.run hb2)
                clear hb2 CL
                go_wp2_with (at_builtin; refine wpList_append_lies _ rfl _ _ 38 rfl w.heap.size 98 i0 _ 2 24 Tryz.underlying38 hi hz0 hz1 hz2 rfl (by decide) _ _ _ rfl (R2.out.alloc (.cells #[.int .i64 11, .string o] 98)).1 ⟨w2.heap.size, 0, none⟩ 1 1 [.int .i64 11, .string o] rfl rfl zbv (zbt _ _) (by decide) (by unfold maxLen; have := HEN.out; omega) (by have := HEN.out; omega) (by have := R2.out.2.2.size; simp; omega) (w2.heap.size + 1) (by simp) ?_)
                intro gg cp3 w3 hown3 hgrow _ _
                have R3 := hid (zbx (kd := 11) (R2.out.alloc _) hown3 rfl hgrow)
                clear hown3 hgrow
                go_wp2
                go_ret
                have hPL := HFL.out
                rw [← HO.out] at R3
                subst hPL
                exact ⟨gg, cp3, by first | rfl | (simp; done), by have := R3.out.1; simpa [ent] using this, R3.out.2.2⟩
end Go.Proofs.YtjeigphhepngmaaGreatDoor
