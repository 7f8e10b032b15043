/- -/
import Derived.Test.YtjeigphhepngmaaGreatDoorAp
namespace Go.Proofs.YtjeigphhepngmaaGreatDoor
open Go.RowKit
open Go.Lib (hid)
set_option maxHeartbeats 8000000
set_option linter.unusedSimpArgs false
set_option linter.unusedVariables false
set_option maxRecDepth 100000
theorem zqr (d : PalD) (v : Value) (w : World) (hv : ListAt 3 hueA w v d.hues) (hd : Ints64 [d.num]) (hg : ∀ h ∈ d.hues, Ints64 (hueI h)) (hl : d.hues.length ≤ 256) :
  Calls Tryz.prog 118 #[.agg (palA (d, v))] w fun e w' => e = .returned (.string (str (palB d))) ∧ Below w.heap.size w w' := by
 have HV := hid hv
 have HI := hid hg
 obtain ⟨va, vc, rfl⟩ := hv.shape
 simp only [palA]
 have hPI : Ints64 [d.num, (d.hues.length : Int)] := fun n hn => by
  simp only [List.mem_cons, List.not_mem_nil, or_false] at hn
  rcases hn with rfl | rfl
  · exact one64 hd
  omega
 have C0 := hid (fun W g hg => zcn g d.num (d.hues.length : Int) W hg hPI)
 have HP := hid (show (intsB [d.num, (d.hues.length : Int)]).length + (d.hues.flatMap hueB).length ≤ 1000000 from by have h1 := zat hPI; have h2 := zbg (f := hueB) (n := 30) (l := d.hues) (fun x hx => by have := zat (hg x hx); simpa [hueB, hueI] using this); simp at h1; omega)
 have hll : (d.hues.length : Int) ≤ 1000 := by omega
 obtain ⟨Z, hZ⟩ : ∃ Z, w.alloc (.cells #[.int .i64 d.num, .slice va d.hues.length vc] 150) = Z := ⟨_, rfl⟩
 have r0 : RowAt Z w.heap.size 150 #[.int .i64 d.num, .slice va d.hues.length vc] := by rw [← hZ]; exact RowAt.new _ _ _
 have hbz : Below w.heap.size w Z := by rw [← hZ]; exact bel
 have HZ := hid (And.intro r0 hbz)
 have hsz := hbz.size
 have HK := hid (fun (W : World) (hW : Below Z.heap.size Z W) => (show W.cell? ⟨w.heap.size, 0, none⟩ = some (.int .i64 d.num) ∧ W.cell? ⟨w.heap.size, 1, none⟩ = some (.slice va d.hues.length vc) from by
  obtain ⟨f, _⟩ := zaa (HZ.out.1.run hW)
  exact ⟨f 0, f 1⟩))
 obtain ⟨x1, x2, x3, x4, x5, x6⟩ := zaa r0
 clear r0 hbz
 go_enter Tryz.func118, Tryz.ntmps118
 go_wp2_with fail
 refine (C0.out _ _ rwt).mono ?_
 rintro e w1 ⟨rfl, hb1⟩
 have hs1 := hb1.size
 (try simp at hs1)
 have hb2 : Below Z.heap.size Z w1 := bel
 have H1 := hid (And.intro (HZ.out.1.run hb2) (HZ.out.2.trans (hb2.mono hsz)))
 have HQ := hid (show True from trivial)
 clear hb1 hb2
 go_wp2
 clear HK x1 x2 x3 x4 x5 x6
 rename World => wh
 go_loopw [3, 4] (fun s3 i wr => ∃ k : Nat, k ≤ d.hues.length ∧ i = .int .i64 k ∧ s3 = .string (str (intsB [d.num, (d.hues.length : Int)] ++ (d.hues.take k).flatMap hueB)) ∧ Hid (RowAt wr w.heap.size 150 #[.int .i64 d.num, .slice va d.hues.length vc] ∧ Below w.heap.size w wr)) (fun _ i _ => d.hues.length - (intOf i).toNat)
 case atStart => exact ⟨0, Nat.zero_le _, rfl, by simp [HQ.out], H1⟩
 case round =>
  obtain ⟨k, hk, rfl, rfl, hh⟩ := hrel
  obtain ⟨x1, x2, x3, x4, x5, x6⟩ := zaa hh.out.1
  by_cases hlt : k < d.hues.length
  · have hlt3 : (k : Int) < (d.hues.length : Int) := by omega
    obtain ⟨h, hd0⟩ : ∃ h, d.hues[k]? = some h := ⟨_, List.getElem?_eq_getElem hlt⟩
    obtain ⟨g, off, cap', he, hg0, hc⟩ := HV.out.at_ (by decide) hd0
    cases he
    have HK := hid (show ∀ W, Below wr.heap.size wr W → W.cell? ⟨w.heap.size, 1, none⟩ = some (.slice (some ⟨g, off, none⟩) d.hues.length vc) ∧ W.cell? ⟨g, off + k * 3, none⟩ = some (.int .i64 h.ch) ∧ W.cell? ⟨g, off + k * 3 + 1, none⟩ = some (.int .i64 h.at_) ∧ W.cell? ⟨g, off + k * 3 + 2, none⟩ = some (.int .i64 h.lev) from fun W hW => ⟨(zaa (hh.out.1.run hW)).1 1, hc W (hh.out.2.trans (hW.mono hh.out.2.size)) 0 (by decide), hc W (hh.out.2.trans (hW.mono hh.out.2.size)) 1 (by decide), hc W (hh.out.2.trans (hW.mono hh.out.2.size)) 2 (by decide)⟩)
    obtain ⟨e00, e0, e1, e2⟩ := HK.out wr (Below.refl _ _)
    have CI := hid (fun W g hg => zc5 g h.ch h.at_ h.lev W hg (HI.out h (List.mem_of_getElem? hd0)))
    have HX := hid (show str (intsB [d.num, (d.hues.length : Int)] ++ (d.hues.take k).flatMap hueB) ++ str (intsB [h.ch, h.at_, h.lev]) = str (intsB [d.num, (d.hues.length : Int)] ++ (d.hues.take (k + 1)).flatMap hueB) from by rw [zas, zaf hd0, List.flatMap_append, ← List.append_assoc]; simp [hueB, hueI])
    have hfl := zaq (f := hueB) hd0
    have hHL := HP.out
    have zx : ((str (intsB [d.num, (d.hues.length : Int)] ++ (d.hues.take k).flatMap hueB)).size : Int) ≤ 1000000000 := zae (by rw [List.length_append]; omega)
    have zy : ((str (intsB [h.ch, h.at_, h.lev])).size : Int) ≤ 1000000000 := zae (by have : (intsB [h.ch, h.at_, h.lev]).length = (hueB h).length := rfl; omega)
    generalize str (intsB [d.num, (d.hues.length : Int)] ++ (d.hues.take k).flatMap hueB) = x at zx HX ⊢
    generalize str (intsB [h.ch, h.at_, h.lev]) = y at zy CI HX ⊢
    have hsum : ¬ 9223372036854775807 < (x.size : Int) + (y.size : Int) := by omega
    have hsum2 : ¬ 9223372036854775807 < x.size + y.size := by omega
    have hszr := hh.out.2.size
    clear hd0 hc hfl hHL hk
    go_wp2
    clear x1 x2 x3 x4 x5 x6
    go_region_held3 (fun w' => w'.cell? ⟨w.heap.size, 1, none⟩ = some (.slice (some ⟨g, off, none⟩) d.hues.length vc) ∧ w'.cell? ⟨g, off + k * 3, none⟩ = some (.int .i64 h.ch) ∧ w'.cell? ⟨g, off + k * 3 + 1, none⟩ = some (.int .i64 h.at_) ∧ w'.cell? ⟨g, off + k * 3 + 2, none⟩ = some (.int .i64 h.lev)) (first | exact HK.out _ bel | go_keep)
     (first | (go_at_call 117; refine (CI.out _ _ rwt).mono ?_; rintro e w4 ⟨rfl, hb4⟩; have hs4 := hb4.size; (try simp at hs4)) | fail)
    all_goals
     have hb9 : Below wr.heap.size wr w4 := bel
     have H9 := hid (And.intro (hh.out.1.run hb9) (hh.out.2.trans (hb9.mono hh.out.2.size)))
     clear hb4 hb9
    all_goals go_wp2
    all_goals go_roundw
    case rel => exact ⟨k + 1, by omega, by go_num, by rw [HX.out], H9⟩
    case measure => simp [intOf]; omega
  obtain rfl : k = d.hues.length := by omega
  have HT := hid (show d.hues.take d.hues.length = d.hues from List.take_length)
  go_wp2
  go_ret
  exact ⟨zbl (by rw [HT.out]; simp [palB, intsB]), hh.out.2⟩
theorem zmt (d : SubD) (v : Value) (w : World) (hv : ListAt 3 gainA w v d.gains) (hd : Ints64 [d.num, d.pri]) (hg : ∀ h ∈ d.gains, Ints64 (gainI h)) (hl : d.gains.length ≤ 128) :
  Calls Tryz.prog 119 #[.agg (subA (d, v))] w fun e w' => e = .returned (.string (str (subB d))) ∧ Below w.heap.size w w' := by
 have HV := hid hv
 have HI := hid hg
 obtain ⟨va, vc, rfl⟩ := hv.shape
 simp only [subA]
 have hPI : Ints64 [d.num, d.pri, truthI d.inh, (d.gains.length : Int)] := fun n hn => by
  simp only [List.mem_cons, List.not_mem_nil, or_false] at hn
  rcases hn with rfl | rfl | rfl | rfl
  · exact hd _ (by simp)
  · exact hd _ (by simp)
  · exact zey _
  omega
 have C0 := hid (fun W g hg => zvp g d.num d.pri (truthI d.inh) (d.gains.length : Int) W hg hPI)
 have CT := hid (fun W => zdr d.inh W)
 have HP := hid (show (intsB [d.num, d.pri, truthI d.inh, (d.gains.length : Int)]).length + (d.gains.flatMap gainB).length ≤ 1000000 from by have h1 := zat hPI; have h2 := zbg (f := gainB) (n := 30) (l := d.gains) (fun x hx => by have := zat (hg x hx); simpa [gainB, gainI] using this); simp at h1; omega)
 have hll : (d.gains.length : Int) ≤ 1000 := by omega
 obtain ⟨Z, hZ⟩ : ∃ Z, w.alloc (.cells #[.int .i64 d.num, .int .i64 d.pri, .bool d.inh, .slice va d.gains.length vc] 153) = Z := ⟨_, rfl⟩
 have r0 : RowAt Z w.heap.size 153 #[.int .i64 d.num, .int .i64 d.pri, .bool d.inh, .slice va d.gains.length vc] := by rw [← hZ]; exact RowAt.new _ _ _
 have hbz : Below w.heap.size w Z := by rw [← hZ]; exact bel
 have HZ := hid (And.intro r0 hbz)
 have hsz := hbz.size
 have HK := hid (fun (W : World) (hW : Below Z.heap.size Z W) => (show W.cell? ⟨w.heap.size, 0, none⟩ = some (.int .i64 d.num) ∧ W.cell? ⟨w.heap.size, 1, none⟩ = some (.int .i64 d.pri) ∧ W.cell? ⟨w.heap.size, 2, none⟩ = some (.bool d.inh) ∧ W.cell? ⟨w.heap.size, 3, none⟩ = some (.slice va d.gains.length vc) from by
  obtain ⟨f, _⟩ := zaa (HZ.out.1.run hW)
  exact ⟨f 0, f 1, f 2, f 3⟩))
 obtain ⟨x1, x2, x3, x4, x5, x6⟩ := zaa r0
 clear r0 hbz
 have HQ := hid (show True from trivial)
 obtain ⟨e0, e1, e2, e3⟩ := HK.out Z (Below.refl _ _)
 generalize htr : truthI d.inh = tr at CT C0
 go_enter Tryz.func119, Tryz.ntmps119
 go_wp2
 go_cut [3] (fun s3 wx => s3 = .string (str (intsB [d.num, d.pri, tr, (d.gains.length : Int)])) ∧ Below Z.heap.size Z wx)
 case first =>
  go_region_held3 (fun w' => w'.cell? ⟨w.heap.size, 0, none⟩ = some (.int .i64 d.num) ∧ w'.cell? ⟨w.heap.size, 1, none⟩ = some (.int .i64 d.pri) ∧ w'.cell? ⟨w.heap.size, 2, none⟩ = some (.bool d.inh) ∧ w'.cell? ⟨w.heap.size, 3, none⟩ = some (.slice va d.gains.length vc)) (first | exact HK.out _ bel | go_keep)
    (first | (go_at_call 171; (with_reducible refine (CT.out _).mono ?_); rintro e w5 ⟨rfl, rfl⟩) | (go_at_call 117; (with_reducible refine (C0.out _ _ rwt).mono ?_); rintro e w4 ⟨rfl, hb4⟩))
  all_goals (go_wp2_with fail; go_meet)
  all_goals exact ⟨rfl, bel⟩
 obtain ⟨rfl, hbc⟩ := hcut
 rw [← htr]
 have H1 := hid (And.intro (HZ.out.1.run hbc) (HZ.out.2.trans (hbc.mono hsz)))
 clear hbc e0 e1 e2 e3
 go_wp2
 clear HK x1 x2 x3 x4 x5 x6
 rename World => wh
 go_loopw [3, 4] (fun s3 i wr => ∃ k : Nat, k ≤ d.gains.length ∧ i = .int .i64 k ∧ s3 = .string (str (intsB [d.num, d.pri, truthI d.inh, (d.gains.length : Int)] ++ (d.gains.take k).flatMap gainB)) ∧ Hid (RowAt wr w.heap.size 153 #[.int .i64 d.num, .int .i64 d.pri, .bool d.inh, .slice va d.gains.length vc] ∧ Below w.heap.size w wr)) (fun _ i _ => d.gains.length - (intOf i).toNat)
 case atStart => exact ⟨0, Nat.zero_le _, rfl, by simp [HQ.out], H1⟩
 case round =>
  obtain ⟨k, hk, rfl, rfl, hh⟩ := hrel
  obtain ⟨x1, x2, x3, x4, x5, x6⟩ := zaa hh.out.1
  by_cases hlt : k < d.gains.length
  · have hlt3 : (k : Int) < (d.gains.length : Int) := by omega
    obtain ⟨h, hd0⟩ : ∃ h, d.gains[k]? = some h := ⟨_, List.getElem?_eq_getElem hlt⟩
    obtain ⟨g, off, cap', he, hg0, hc⟩ := HV.out.at_ (by decide) hd0
    cases he
    have HK := hid (show ∀ W, Below wr.heap.size wr W → W.cell? ⟨w.heap.size, 3, none⟩ = some (.slice (some ⟨g, off, none⟩) d.gains.length vc) ∧ W.cell? ⟨g, off + k * 3, none⟩ = some (.int .i64 h.ch) ∧ W.cell? ⟨g, off + k * 3 + 1, none⟩ = some (.int .i64 h.at_) ∧ W.cell? ⟨g, off + k * 3 + 2, none⟩ = some (.int .i64 h.lev) from fun W hW => ⟨(zaa (hh.out.1.run hW)).1 3, hc W (hh.out.2.trans (hW.mono hh.out.2.size)) 0 (by decide), hc W (hh.out.2.trans (hW.mono hh.out.2.size)) 1 (by decide), hc W (hh.out.2.trans (hW.mono hh.out.2.size)) 2 (by decide)⟩)
    obtain ⟨e00, e0, e1, e2⟩ := HK.out wr (Below.refl _ _)
    have CI := hid (fun W g hg => zc5 g h.ch h.at_ h.lev W hg (HI.out h (List.mem_of_getElem? hd0)))
    have HX := hid (show str (intsB [d.num, d.pri, truthI d.inh, (d.gains.length : Int)] ++ (d.gains.take k).flatMap gainB) ++ str (intsB [h.ch, h.at_, h.lev]) = str (intsB [d.num, d.pri, truthI d.inh, (d.gains.length : Int)] ++ (d.gains.take (k + 1)).flatMap gainB) from by rw [zas, zaf hd0, List.flatMap_append, ← List.append_assoc]; simp [gainB, gainI])
    have hfl := zaq (f := gainB) hd0
    have hHL := HP.out
    have zx : ((str (intsB [d.num, d.pri, truthI d.inh, (d.gains.length : Int)] ++ (d.gains.take k).flatMap gainB)).size : Int) ≤ 1000000000 := zae (by rw [List.length_append]; omega)
    have zy : ((str (intsB [h.ch, h.at_, h.lev])).size : Int) ≤ 1000000000 := zae (by have : (intsB [h.ch, h.at_, h.lev]).length = (gainB h).length := rfl; omega)
    generalize str (intsB [d.num, d.pri, truthI d.inh, (d.gains.length : Int)] ++ (d.gains.take k).flatMap gainB) = x at zx HX ⊢
    generalize str (intsB [h.ch, h.at_, h.lev]) = y at zy CI HX ⊢
    have hsum : ¬ 9223372036854775807 < (x.size : Int) + (y.size : Int) := by omega
    have hsum2 : ¬ 9223372036854775807 < x.size + y.size := by omega
    have hszr := hh.out.2.size
    clear hd0 hc hfl hHL hk
    go_wp2
    clear x1 x2 x3 x4 x5 x6
    go_region_held3 (fun w' => w'.cell? ⟨w.heap.size, 3, none⟩ = some (.slice (some ⟨g, off, none⟩) d.gains.length vc) ∧ w'.cell? ⟨g, off + k * 3, none⟩ = some (.int .i64 h.ch) ∧ w'.cell? ⟨g, off + k * 3 + 1, none⟩ = some (.int .i64 h.at_) ∧ w'.cell? ⟨g, off + k * 3 + 2, none⟩ = some (.int .i64 h.lev)) (first | exact HK.out _ bel | go_keep)
     (first | (go_at_call 117; refine (CI.out _ _ rwt).mono ?_; rintro e w4 ⟨rfl, hb4⟩; have hs4 := hb4.size; (try simp at hs4)) | fail)
    all_goals
     have hb9 : Below wr.heap.size wr w4 := bel
     have H9 := hid (And.intro (hh.out.1.run hb9) (hh.out.2.trans (hb9.mono hh.out.2.size)))
     clear hb4 hb9
    all_goals go_wp2
    all_goals go_roundw
    case rel => exact ⟨k + 1, by omega, by go_num, by rw [HX.out], H9⟩
    case measure => simp [intOf]; omega
  obtain rfl : k = d.gains.length := by omega
  have HT := hid (show d.gains.take d.gains.length = d.gains from List.take_length)
  go_wp2
  go_ret
  exact ⟨zbl (by rw [HT.out]; simp [subB, intsB]), hh.out.2⟩
theorem zuu (d : ProfD) (v : Value) (w : World) (hv : RL 10 featA RFeat w v d.feats) (hd : Prof64 d) (hn : d.name.size ≤ 24) (hl : d.feats.length ≤ 16) (hw : ∀ f ∈ d.feats, f.wheel.length ≤ 16 ∧ ∀ s ∈ f.wheel, s.name.size ≤ 24) :
  Calls Tryz.prog 115 #[.agg (profA (d, v))] w fun e w' => e = .returned (.string (str (profB d))) ∧ Below w.heap.size w w' := by
 have HV := hid hv
 have HD := hid hd
 have HW := hid hw
 obtain ⟨va, vc, rfl⟩ := hv.shape
 have hPI : Ints64 [d.foot, d.watts, (d.feats.length : Int)] := fun n hn => by
  simp only [List.mem_cons, List.not_mem_nil, or_false] at hn
  rcases hn with rfl | rfl | rfl
  · exact hd.ints _ (by simp)
  · exact hd.ints _ (by simp)
  omega
 have HP := hid (show (textB d.name ++ intsB [d.foot, d.watts, (d.feats.length : Int)]).length + (d.feats.flatMap featB).length ≤ 1000000 from by
  have h1 := zat hPI
  have h2 := zbi hn (by omega)
  have h3 := zbg (f := featB) (n := 964) (l := d.feats) fun f hf => zkc (hd.feats f hf) (hw f hf).1 (hw f hf).2
  rw [List.length_append]
  simp at h1
  omega)
 have C0 := hid (fun W g hg => zc5 g d.foot d.watts (d.feats.length : Int) W hg hPI)
 have CT := hid (fun W => zcd d.name W (by omega))
 have hll : (d.feats.length : Int) ≤ 16 := by omega
 simp only [profA]
 obtain ⟨Z, hZ⟩ : ∃ Z, w.alloc (.cells #[.string d.name, .int .i64 d.foot, .int .i64 d.watts, .slice va d.feats.length vc] 89) = Z := ⟨_, rfl⟩
 have r0 : RowAt Z w.heap.size 89 #[.string d.name, .int .i64 d.foot, .int .i64 d.watts, .slice va d.feats.length vc] := by rw [← hZ]; exact RowAt.new _ _ _
 have hbz : Below w.heap.size w Z := by rw [← hZ]; exact bel
 have HZ := hid (And.intro r0 hbz)
 have hsz := hbz.size
 have HK := hid (fun (W : World) (hW : Below Z.heap.size Z W) => (show W.cell? ⟨w.heap.size, 0, none⟩ = some (.string d.name) ∧ W.cell? ⟨w.heap.size, 1, none⟩ = some (.int .i64 d.foot) ∧ W.cell? ⟨w.heap.size, 2, none⟩ = some (.int .i64 d.watts) ∧ W.cell? ⟨w.heap.size, 3, none⟩ = some (.slice va d.feats.length vc) from by
  obtain ⟨f, _⟩ := zaa (HZ.out.1.run hW)
  exact ⟨f 0, f 1, f 2, f 3⟩))
 obtain ⟨e0, e1, e2, e3⟩ := HK.out Z (Below.refl _ _)
 have z1 : ((str (textB d.name)).size : Int) ≤ 1000000000 := zae (by have := HP.out; simp only [List.length_append] at this; omega)
 have z2 : ((str (intsB [d.foot, d.watts, (d.feats.length : Int)])).size : Int) ≤ 1000000000 := zae (by have := HP.out; simp only [List.length_append] at this; omega)
 have HX0 := hid (show str (textB d.name) ++ str (intsB [d.foot, d.watts, (d.feats.length : Int)]) = str (textB d.name ++ intsB [d.foot, d.watts, (d.feats.length : Int)]) from zas _ _)
 generalize str (textB d.name) = x1 at z1 CT HX0
 generalize str (intsB [d.foot, d.watts, (d.feats.length : Int)]) = x2 at z2 C0 HX0
 have su1a : ¬ 9223372036854775807 < (x1.size : Int) + (x2.size : Int) := by omega
 have su1b : ¬ 9223372036854775807 < x1.size + x2.size := by omega
 have su1e : x1.size + x2.size ≤ 9223372036854775807 := by omega
 have su1g : (x1.size : Int) + (x2.size : Int) ≤ 9223372036854775807 := by omega
 clear r0 hbz hv hd hw hPI hn
 go_enter Tryz.func115, Tryz.ntmps115
 go_wp2
 go_cut [3] (fun s3 wx => s3 = .string (x1 ++ x2) ∧ Below Z.heap.size Z wx)
 case first =>
  go_region_held3 (fun w' => w'.cell? ⟨w.heap.size, 0, none⟩ = some (.string d.name) ∧ w'.cell? ⟨w.heap.size, 1, none⟩ = some (.int .i64 d.foot) ∧ w'.cell? ⟨w.heap.size, 2, none⟩ = some (.int .i64 d.watts) ∧ w'.cell? ⟨w.heap.size, 3, none⟩ = some (.slice va d.feats.length vc)) (first | exact HK.out _ bel | go_keep)
    (first | (go_at_call 113; (with_reducible refine (CT.out _).mono ?_); rintro e w5 ⟨rfl, hb5⟩; have hs5 := hb5.size; (try simp at hs5)) | (go_at_call 117; (with_reducible refine (C0.out _ _ rwt).mono ?_); rintro e w4 ⟨rfl, hb4⟩))
  all_goals (go_wp2_with fail; go_meet)
  all_goals exact ⟨rfl, bel⟩
 obtain ⟨rfl, hbc⟩ := hcut
 rw [HX0.out]
 have H1 := hid (And.intro (HZ.out.1.run hbc) (HZ.out.2.trans (hbc.mono hsz)))
 clear hbc e0 e1 e2 e3 HK HX0 z1 z2 x1 x2 C0 CT su1a su1b su1e su1g
 go_wp2
 rename World => wh
 go_loopw [3, 4, 5, 6] (fun s3 i _ _ wr => ∃ k : Nat, k ≤ d.feats.length ∧ i = .int .i64 k ∧ s3 = .string (str (textB d.name ++ intsB [d.foot, d.watts, (d.feats.length : Int)] ++ (d.feats.take k).flatMap featB)) ∧ Hid (RowAt wr w.heap.size 89 #[.string d.name, .int .i64 d.foot, .int .i64 d.watts, .slice va d.feats.length vc] ∧ Below w.heap.size w wr)) (fun _ i _ _ _ => d.feats.length - (intOf i).toNat)
 case atStart => exact ⟨0, Nat.zero_le _, rfl, by simp, H1⟩
 case round =>
  obtain ⟨k, hk, rfl, rfl, hh⟩ := hrel
  obtain ⟨b1, b2, b3, b4, b5, b6⟩ := zaa hh.out.1
  have hbs := hh.out.2.size
  by_cases hlt : k < d.feats.length
  · have hlt3 : (k : Int) < (d.feats.length : Int) := by omega
    obtain ⟨f, hf⟩ : ∃ f, d.feats[k]? = some f := ⟨_, List.getElem?_eq_getElem hlt⟩
    obtain ⟨y, g, off, cap', he, hg0, hc⟩ := HV.out.at_ (by decide) za6 hf
    cases he
    have hRw := (hc w (Below.refl _ _)).2
    have hcw := (hc wr hh.out.2).1
    obtain ⟨ya, yc, e9⟩ := hRw.1.shape
    simp only at e9
    subst e9
    have hfm := List.mem_of_getElem? hf
    have f0 : wr.cell? ⟨g, off + k * 10, none⟩ = some (.int .i64 f.attr) := hcw 0 (by decide)
    have f1 : wr.cell? ⟨g, off + k * 10 + 1, none⟩ = some (.int .i64 f.bits) := hcw 1 (by decide)
    have f2 : wr.cell? ⟨g, off + k * 10 + 2, none⟩ = some (.int .i64 f.coarse) := hcw 2 (by decide)
    have f3 : wr.cell? ⟨g, off + k * 10 + 3, none⟩ = some (.int .i64 f.fine) := hcw 3 (by decide)
    have f4 : wr.cell? ⟨g, off + k * 10 + 4, none⟩ = some (.int .i64 f.curve) := hcw 4 (by decide)
    have f5 : wr.cell? ⟨g, off + k * 10 + 5, none⟩ = some (.int .i64 f.home) := hcw 5 (by decide)
    have f6 : wr.cell? ⟨g, off + k * 10 + 6, none⟩ = some (.int .i64 f.low) := hcw 6 (by decide)
    have f7 : wr.cell? ⟨g, off + k * 10 + 7, none⟩ = some (.int .i64 f.high) := hcw 7 (by decide)
    have f8 : wr.cell? ⟨g, off + k * 10 + 8, none⟩ = some (.bool f.snap) := hcw 8 (by decide)
    have f9 : wr.cell? ⟨g, off + k * 10 + 9, none⟩ = some (.slice ya f.wheel.length yc) := hcw 9 (by decide)
    have hgr : g < wr.heap.size := Nat.lt_of_lt_of_le hg0 hbs
    obtain ⟨tr, htr⟩ : ∃ t, truthI f.snap = t := ⟨_, rfl⟩
    have hti : -9223372036854775808 ≤ tr ∧ tr ≤ 9223372036854775807 := by rw [← htr]; exact zey _
    have hwl := (HW.out f hfm).1
    have hwl3 : (f.wheel.length : Int) ≤ 16 := by omega
    have hFI := (HD.out.feats f hfm).ints
    have hI10 : Ints64 [f.attr, f.bits, f.coarse, f.fine, f.curve, f.home, f.low, f.high, tr, (f.wheel.length : Int)] := fun n hn => by
     simp only [List.mem_cons, List.not_mem_nil, or_false] at hn
     rcases hn with rfl | rfl | rfl | rfl | rfl | rfl | rfl | rfl | rfl | rfl
     all_goals first | exact hti | omega | exact hFI _ (by simp [featI])
    have CI := hid (fun W g hg => zt8 g f.attr f.bits f.coarse f.fine f.curve f.home f.low f.high tr (f.wheel.length : Int) W hg hI10)
    have CT := hid (htr ▸ fun W => zdr f.snap W)
    have hfb : featB f = intsB (featI f) ++ intB (truthI f.snap) ++ intB f.wheel.length ++ f.wheel.flatMap slotB := rfl
    have hH : intsB [f.attr, f.bits, f.coarse, f.fine, f.curve, f.home, f.low, f.high, tr, (f.wheel.length : Int)] = intsB (featI f) ++ intB (truthI f.snap) ++ intB f.wheel.length := by rw [← htr]; simp [intsB, featI]
    have hfl := zaq (f := featB) hf
    rw [hfb] at hfl
    have HL := hid (show (textB d.name ++ intsB [d.foot, d.watts, (d.feats.length : Int)] ++ (d.feats.take k).flatMap featB ++ (intsB (featI f) ++ intB (truthI f.snap) ++ intB f.wheel.length)).length + (f.wheel.flatMap slotB).length ≤ 1000000 from by
     have := HP.out
     simp only [List.length_append] at *
     omega)
    have HT := hid (show textB d.name ++ intsB [d.foot, d.watts, (d.feats.length : Int)] ++ (d.feats.take (k + 1)).flatMap featB = textB d.name ++ intsB [d.foot, d.watts, (d.feats.length : Int)] ++ (d.feats.take k).flatMap featB ++ (intsB (featI f) ++ intB (truthI f.snap) ++ intB f.wheel.length) ++ f.wheel.flatMap slotB from by rw [zaf hf, List.flatMap_append, ← List.append_assoc]; simp only [List.flatMap_cons, List.flatMap_nil, List.append_nil, hfb, List.append_assoc])
    have HX := hid (show str (textB d.name ++ intsB [d.foot, d.watts, (d.feats.length : Int)] ++ (d.feats.take k).flatMap featB) ++ str (intsB [f.attr, f.bits, f.coarse, f.fine, f.curve, f.home, f.low, f.high, tr, (f.wheel.length : Int)]) = str (textB d.name ++ intsB [d.foot, d.watts, (d.feats.length : Int)] ++ (d.feats.take k).flatMap featB ++ (intsB (featI f) ++ intB (truthI f.snap) ++ intB f.wheel.length)) from by rw [zas, hH])
    have z1 : ((str (textB d.name ++ intsB [d.foot, d.watts, (d.feats.length : Int)] ++ (d.feats.take k).flatMap featB)).size : Int) ≤ 1000000000 := zae (by have := HL.out; simp only [List.length_append] at *; omega)
    have z2 : ((str (intsB [f.attr, f.bits, f.coarse, f.fine, f.curve, f.home, f.low, f.high, tr, (f.wheel.length : Int)])).size : Int) ≤ 1000000000 := zae (by rw [hH]; have := HL.out; simp only [List.length_append] at *; omega)
    have HF := hid (And.intro hRw.1 (HD.out.feats f hfm))
    have HFW := hid (HW.out f hfm).2
    generalize textB d.name ++ intsB [d.foot, d.watts, (d.feats.length : Int)] ++ (d.feats.take k).flatMap featB ++ (intsB (featI f) ++ intB (truthI f.snap) ++ intB f.wheel.length) = QQ at HL HT HX
    generalize str (textB d.name ++ intsB [d.foot, d.watts, (d.feats.length : Int)] ++ (d.feats.take k).flatMap featB) = x at z1 HX ⊢
    generalize str (intsB [f.attr, f.bits, f.coarse, f.fine, f.curve, f.home, f.low, f.high, tr, (f.wheel.length : Int)]) = y at z2 CI HX
    have su1a : ¬ 9223372036854775807 < (x.size : Int) + (y.size : Int) := by omega
    have su1b : ¬ 9223372036854775807 < x.size + y.size := by omega
    have su1e : x.size + y.size ≤ 9223372036854775807 := by omega
    have su1g : (x.size : Int) + (y.size : Int) ≤ 9223372036854775807 := by omega
    obtain ⟨kb, hkb⟩ : ∃ kb, wr.heap.size = kb := ⟨_, rfl⟩
    obtain ⟨W5, hW5⟩ : ∃ W, wr.alloc (.cells #[.int .i64 f.attr, .int .i64 f.bits, .int .i64 f.coarse, .int .i64 f.fine, .int .i64 f.curve, .int .i64 f.home, .int .i64 f.low, .int .i64 f.high, .bool f.snap, .slice ya f.wheel.length yc] 161) = W := ⟨_, rfl⟩
    have p0 : RowAt W5 w.heap.size 89 #[.string d.name, .int .i64 d.foot, .int .i64 d.watts, .slice (some ⟨g, off, none⟩) d.feats.length vc] := by rw [← hW5]; exact hh.out.1.alloc _
    have p1 : RowAt W5 kb 161 #[.int .i64 f.attr, .int .i64 f.bits, .int .i64 f.coarse, .int .i64 f.fine, .int .i64 f.curve, .int .i64 f.home, .int .i64 f.low, .int .i64 f.high, .bool f.snap, .slice ya f.wheel.length yc] := by rw [← hW5, ← hkb]; exact RowAt.new _ _ _
    have pb : Below w.heap.size w W5 := by rw [← hW5]; exact hh.out.2.alloc hbs _
    have R5 := hid (And.intro p0 (And.intro p1 pb))
    have HK := hid (fun (W : World) (hW : Below W5.heap.size W5 W) => (show W.cell? ⟨kb, 0, none⟩ = some (.int .i64 f.attr) ∧ W.cell? ⟨kb, 1, none⟩ = some (.int .i64 f.bits) ∧ W.cell? ⟨kb, 2, none⟩ = some (.int .i64 f.coarse) ∧ W.cell? ⟨kb, 3, none⟩ = some (.int .i64 f.fine) ∧ W.cell? ⟨kb, 4, none⟩ = some (.int .i64 f.curve) ∧ W.cell? ⟨kb, 5, none⟩ = some (.int .i64 f.home) ∧ W.cell? ⟨kb, 6, none⟩ = some (.int .i64 f.low) ∧ W.cell? ⟨kb, 7, none⟩ = some (.int .i64 f.high) ∧ W.cell? ⟨kb, 8, none⟩ = some (.bool f.snap) ∧ W.cell? ⟨kb, 9, none⟩ = some (.slice ya f.wheel.length yc) from by
     obtain ⟨f, _⟩ := zaa (R5.out.2.1.run hW)
     exact ⟨f 0, f 1, f 2, f 3, f 4, f 5, f 6, f 7, f 8, f 9⟩))
    obtain ⟨h0, h1, h2, h3, h4, h5, h6, h7, h8, h9⟩ := HK.out W5 (Below.refl _ _)
    have hs5 := pb.size
    clear hf hc hRw hcw hfm hFI hI10 hfb hfl htr hti p0 p1 pb hk hH
    go_wp2_with fail
    go_cut [3] (fun s3 wx => s3 = .string (x ++ y) ∧ Below W5.heap.size W5 wx)
    case first =>
     go_region_held3 (fun w' => w'.cell? ⟨kb, 0, none⟩ = some (.int .i64 f.attr) ∧ w'.cell? ⟨kb, 1, none⟩ = some (.int .i64 f.bits) ∧ w'.cell? ⟨kb, 2, none⟩ = some (.int .i64 f.coarse) ∧ w'.cell? ⟨kb, 3, none⟩ = some (.int .i64 f.fine) ∧ w'.cell? ⟨kb, 4, none⟩ = some (.int .i64 f.curve) ∧ w'.cell? ⟨kb, 5, none⟩ = some (.int .i64 f.home) ∧ w'.cell? ⟨kb, 6, none⟩ = some (.int .i64 f.low) ∧ w'.cell? ⟨kb, 7, none⟩ = some (.int .i64 f.high) ∧ w'.cell? ⟨kb, 8, none⟩ = some (.bool f.snap) ∧ w'.cell? ⟨kb, 9, none⟩ = some (.slice ya f.wheel.length yc)) (first | exact HK.out _ bel | go_keep)
       (first | (go_at_call 171; (with_reducible refine (CT.out _).mono ?_); rintro e w5 ⟨rfl, rfl⟩) | (go_at_call 117; (with_reducible refine (CI.out _ _ rwt).mono ?_); rintro e w4 ⟨rfl, hb4⟩))
     all_goals (go_wp2_with fail; go_meet)
     all_goals exact ⟨rfl, bel⟩
    obtain ⟨rfl, hbc⟩ := hcut
    rw [HX.out]
    have H2 := hid (And.intro (R5.out.1.run hbc) (And.intro (R5.out.2.1.run hbc) (R5.out.2.2.trans (hbc.mono hs5))))
    clear hbc HK HX z1 z2 CI CT su1a su1b su1e su1g h0 h1 h2 h3 h4 h5 h6 h7 h8 h9 f0 f1 f2 f3 f4 f5 f6 f7 f8 f9 b1 b2 b3 b4 b5 b6 hW5 hs5 hgr hbs
    clear hkb
    rename World => wu
    go_wp2
    rename World => wt
    go_loopw [3, 6] (fun s3 i wr => ∃ j : Nat, j ≤ f.wheel.length ∧ i = .int .i64 j ∧ s3 = .string (str (QQ ++ (f.wheel.take j).flatMap slotB)) ∧ Hid (RowAt wr w.heap.size 89 #[.string d.name, .int .i64 d.foot, .int .i64 d.watts, .slice (some ⟨g, off, none⟩) d.feats.length vc] ∧ RowAt wr kb 161 #[.int .i64 f.attr, .int .i64 f.bits, .int .i64 f.coarse, .int .i64 f.fine, .int .i64 f.curve, .int .i64 f.home, .int .i64 f.low, .int .i64 f.high, .bool f.snap, .slice ya f.wheel.length yc] ∧ Below w.heap.size w wr)) (fun _ i _ => f.wheel.length - (intOf i).toNat)
    case atStart => exact ⟨0, Nat.zero_le _, rfl, by simp, H2⟩
    case round =>
     obtain ⟨j, hj, rfl, rfl, hi⟩ := hrel
     obtain ⟨c1, c2, c3, c4, c5, c6⟩ := zaa hi.out.2.1
     have hbs := hi.out.2.2.size
     by_cases hlt2 : j < f.wheel.length
     · have hlt4 : (j : Int) < (f.wheel.length : Int) := by omega
       obtain ⟨q, hq⟩ : ∃ q, f.wheel[j]? = some q := ⟨_, List.getElem?_eq_getElem hlt2⟩
       obtain ⟨g2, off2, cap2, he, hg2, hc⟩ := HF.out.1.at_ (by decide) hq
       cases he
       have hqm := List.mem_of_getElem? hq
       have HK := hid (show ∀ W, Below wr.heap.size wr W → W.cell? ⟨kb, 9, none⟩ = some (.slice (some ⟨g2, off2, none⟩) f.wheel.length yc) ∧ W.cell? ⟨g2, off2 + j * 3, none⟩ = some (.string q.name) ∧ W.cell? ⟨g2, off2 + j * 3 + 1, none⟩ = some (.int .i64 q.lo) ∧ W.cell? ⟨g2, off2 + j * 3 + 2, none⟩ = some (.int .i64 q.hi) from fun W hW => ⟨(zaa (hi.out.2.1.run hW)).1 9, hc W (hi.out.2.2.trans (hW.mono hbs)) 0 (by decide), hc W (hi.out.2.2.trans (hW.mono hbs)) 1 (by decide), hc W (hi.out.2.2.trans (hW.mono hbs)) 2 (by decide)⟩)
       obtain ⟨e00, e0, e1, e2⟩ := HK.out wr (Below.refl _ _)
       have CS := hid (fun W => zcd q.name W (by have := HFW.out q hqm; omega))
       have CI := hid (fun W g hg => zcn g q.lo q.hi W hg (HF.out.2.wheel q hqm).2)
       have HX := hid (show str (QQ ++ (f.wheel.take j).flatMap slotB) ++ (str (textB q.name) ++ str (intsB [q.lo, q.hi])) = str (QQ ++ (f.wheel.take (j + 1)).flatMap slotB) from by rw [zas, zas, zaf hq, List.flatMap_append, ← List.append_assoc]; simp [slotB])
       have hfl := zaq (f := slotB) hq
       have hsl : (slotB q).length = (textB q.name).length + (intsB [q.lo, q.hi]).length := by unfold slotB; rw [List.length_append]
       have hHL := HL.out
       have zx : ((str (QQ ++ (f.wheel.take j).flatMap slotB)).size : Int) ≤ 1000000000 := zae (by rw [List.length_append]; omega)
       have zy : ((str (textB q.name)).size : Int) ≤ 1000000000 := zae (by omega)
       have zz : ((str (intsB [q.lo, q.hi])).size : Int) ≤ 1000000000 := zae (by omega)
       generalize str (QQ ++ (f.wheel.take j).flatMap slotB) = x at zx HX ⊢
       generalize str (textB q.name) = y at zy CS HX
       generalize str (intsB [q.lo, q.hi]) = z at zz CI HX
       have su1a : ¬ 9223372036854775807 < (y.size : Int) + (z.size : Int) := by omega
       have su1b : ¬ 9223372036854775807 < y.size + z.size := by omega
       have su1e : y.size + z.size ≤ 9223372036854775807 := by omega
       have su1g : (y.size : Int) + (z.size : Int) ≤ 9223372036854775807 := by omega
       have sz1 : (((y ++ z).size : Nat) : Int) = (y.size : Int) + (z.size : Int) := by simp [ByteArray.size_append]
       have sz2 : ¬ 9223372036854775807 < (x.size : Int) + ((y ++ z).size : Int) := by omega
       have sz3 : ¬ 9223372036854775807 < x.size + (y ++ z).size := by omega
       have sz4 : ¬ 9223372036854775807 < (x.size : Int) + ((y.size : Int) + (z.size : Int)) := by omega
       have sz5 : ¬ 9223372036854775807 < x.size + (y.size + z.size) := by omega
       clear hq hc hfl hHL hj hsl hqm
       go_wp2
       clear c1 c2 c3 c4 c5 c6
       go_region_held3 (fun w' => w'.cell? ⟨kb, 9, none⟩ = some (.slice (some ⟨g2, off2, none⟩) f.wheel.length yc) ∧ w'.cell? ⟨g2, off2 + j * 3, none⟩ = some (.string q.name) ∧ w'.cell? ⟨g2, off2 + j * 3 + 1, none⟩ = some (.int .i64 q.lo) ∧ w'.cell? ⟨g2, off2 + j * 3 + 2, none⟩ = some (.int .i64 q.hi)) (first | exact HK.out _ bel | go_keep)
        (first | (go_at_call 113; (with_reducible refine (CS.out _).mono ?_); rintro e w5 ⟨rfl, hb5⟩; have hs5 := hb5.size; (try simp at hs5)) | (go_at_call 117; (with_reducible refine (CI.out _ _ rwt).mono ?_); rintro e w4 ⟨rfl, hb4⟩; have hs4 := hb4.size; (try simp at hs4)))
       all_goals
        have hb9 : Below wr.heap.size wr w4 := bel
        have H9 := hid (And.intro (hi.out.1.run hb9) (And.intro (hi.out.2.1.run hb9) (hi.out.2.2.trans (hb9.mono hbs))))
        clear hb4 hb9
       all_goals go_wp2
       all_goals go_roundw
       all_goals first
        | exact ⟨j + 1, by omega, by go_num, by rw [HX.out], H9⟩
        | (simp [intOf]; omega)
     obtain rfl : j = f.wheel.length := by omega
     have HE := hid (show f.wheel.take f.wheel.length = f.wheel from List.take_length)
     go_wp2
     go_roundw
     case rel => exact ⟨k + 1, by omega, by go_num, by rw [HT.out, HE.out], hid ⟨hi.out.1, hi.out.2.2⟩⟩
     case measure => simp [intOf]; omega
  obtain rfl : k = d.feats.length := by omega
  have HT := hid (show d.feats.take d.feats.length = d.feats from List.take_length)
  go_wp2
  go_ret
  exact ⟨zbl (by rw [HT.out]; simp [profB, intsB]), hh.out.2⟩
def exCue : CueD := ⟨⟨#[49]⟩, ⟨#[]⟩, [], [⟨0, 0, 0, 0, 0, 0⟩], false, false, -1, ⟨#[]⟩, 0⟩
theorem zj3 : cueE exCue = 0 := by kernel_rfl
theorem zhs : cueB exCue = [2, 49, 0, 0, 2, 0, 0, 0, 0, 0, 0, 0, 0, 1, 0, 0] := by kernel_rfl
theorem zip : cueS exCue = ⟨#[2, 49, 0, 0, 2, 0, 0, 0, 0, 0, 0, 0, 0, 1, 0, 0]⟩ := by rw [cueS, if_pos zj3, zhs]; rfl
def nextR (s : ByteArray) (a : Nat) : Except Int (Ent × Nat) :=
 if h : s.size < a + 5 then .error 20
 else
  let n := (s[a + 1]'(by omega)).toNat * 256 + (s[a + 2]'(by omega)).toNat
  if s.size < a + 5 + n then .error 20
  else if (s.extract (a + 3 + n) (a + 3 + n + 2) != str (wordB (sumN (s.extract a (a + 3) ++ s.extract (a + 3) (a + 3 + n)).data.toList))) = true then .error 17
  else .ok ((s[a]'(by omega), s.extract (a + 3) (a + 3 + n)), a + 5 + n)
def nextV (r : Except Int (Ent × Nat)) : Value := match r with
 | .ok (x, nx) => .tuple #[.agg #[.int .i64 (x.1.toNat : Int), .string x.2], .int .i64 (nx : Int), .int .i64 0]
 | .error c => .tuple #[.agg #[.int .i64 0, .string ⟨#[]⟩], .int .i64 0, .int .i64 c]
theorem zhe {s : ByteArray} {a : Nat} (h : a + 3 ≤ s.size) : s.extract a (a + 3) = str [s[a], s[a + 1], s[a + 2]] := by
 have h1 : a < s.data.size := (show a < s.size by omega)
 have h2 : a + 1 < s.data.size := (show a + 1 < s.size by omega)
 have h3 : a + 2 < s.data.size := (show a + 2 < s.size by omega)
 apply ByteArray.ext
 apply Array.ext
 · simp [str]
   have : (s.extract a (a + 3)).data.size = (s.extract a (a + 3)).size := rfl
   simp at *
   omega
 intro i hi1 hi2
 have : i = 0 ∨ i = 1 ∨ i = 2 := by simp [str] at hi2; omega
 rcases this with rfl | rfl | rfl <;> simp [str, ByteArray.data_extract, ByteArray.getElem_eq_getElem_data]
theorem zwo (a b : UInt8) (n : Nat) (hn : n = a.toNat * 256 + b.toNat) : bits BinOp.or .i64 (wrap64 (wrap64 (a.toNat : Int) * 256)) (wrap64 (b.toNat : Int)) = (n : Int) := by
 have ha := a.toNat_lt
 have hb := b.toNat_lt
 rw [IntWalk.wrap64_in (a.toNat : Int) (by omega), IntWalk.wrap64_in (b.toNat : Int) (by omega), IntWalk.wrap64_in _ (by omega),
  bits_join .i64 32 (by decide) (fun n h0 h1 => IntWalk.i64_in n (by omega)) 8 _ _ (by omega) (by omega) (by omega) (by omega) (by omega) (by omega)]
 omega
theorem zes {w : World} {k T : Nat} {a b v0 v1 : Value} (h : RowAt w k T #[a, b]) : RowAt ((w.setCell ⟨k, 0, none⟩ v0).setCell ⟨k, 1, none⟩ v1) k T #[v0, v1] := by
 have h0 : RowAt (w.setCell ⟨k, 0, none⟩ v0) k T #[v0, b] := RowAt.set (i := 0) (u := v0) h rfl
 exact RowAt.set (i := 1) (u := v1) h0 rfl
theorem zef {B : Nat} {a w : World} {k : Nat} {v0 v1 : Value} (h : Below B a w) (hk : B ≤ k) : Below B a ((w.setCell ⟨k, 0, none⟩ v0).setCell ⟨k, 1, none⟩ v1) := za0 (za0 h hk) hk
theorem zc1 (s : ByteArray) (a : Nat) (w : World) (ha : a ≤ s.size) (hs : s.size ≤ 100000) :
   Calls Tryz.prog 150 #[.string s, .int .i64 (a : Int)] w fun e w' => e = .returned (nextV (nextR s a)) ∧ Below w.heap.size w w' := by
 obtain ⟨W0, hW0⟩ : ∃ W, (w.alloc (.cells #[.int .i64 0, .string ⟨#[]⟩] 77)).alloc (.cells #[.string s, .int .i64 (a : Int)] 317) = W := ⟨_, rfl⟩
 have r0 : RowAt W0 w.heap.size 77 #[.int .i64 0, .string ⟨#[]⟩] := by rw [← hW0]; exact RowAt.alloc (RowAt.new _ _ _) _
 have e0 : ERd W0 (w.heap.size + 1) s a := by rw [← hW0]; exact RowAt.mk (by simp) rfl
 have B0 : Below w.heap.size w W0 := by rw [← hW0]; exact bel
 have C1 := hid (zfa (w.heap.size + 1) s a W0 e0 ha)
 have C2 := hid (fun W (h : ERd W (w.heap.size + 1) s a) => zdi (w.heap.size + 1) s a 5 W h ha (by omega) (by omega))
 have H0 := hid (And.intro r0 (And.intro e0 B0))
 clear r0 e0 B0
 by_cases h5 : s.size < a + 5
 · have hd : decide ((5 : Int) ≤ (s.size : Int) - (a : Int)) = false := by simp; omega
   have HX := hid (show nextR s a = .error 20 from by rw [nextR, dif_pos h5])
   rw [hd] at C2
   clear h5 hd ha hs
   go_enter Tryz.func150, Tryz.ntmps150
   go_wp2_with fail
   clear hW0
   refine C1.out.mono ?_
   rintro e w1 ⟨rfl, hb1⟩
   have r1 := RowAt.run H0.out.1 hb1
   have e1 : ERd w1 (w.heap.size + 1) s a := RowAt.run H0.out.2.1 hb1
   have B1 := H0.out.2.2.trans (hb1.mono H0.out.2.2.size)
   have H1 := hid (And.intro r1 (And.intro e1 B1))
   clear hb1 r1 e1 B1
   go_wp2_with fail
   refine (C2.out _ H1.out.2.1).mono ?_
   rintro e w2 ⟨rfl, hb2⟩
   have r2 := RowAt.run H1.out.1 hb2
   have HB2 := hid (H1.out.2.2.trans (hb2.mono H1.out.2.2.size))
   have HR2 := hid r2
   obtain ⟨x1, x2, x3, x4, x5, x6⟩ := zaa r2
   clear hb2 r2
   go_wp2
   have hF : RowAt ((w2.setCell ⟨w.heap.size, 0, none⟩ (.int .i64 0)).setCell ⟨w.heap.size, 1, none⟩ (.string ⟨#[]⟩)) w.heap.size 77 #[.int .i64 0, .string ⟨#[]⟩] := zes HR2.out
   have f0 := zak hF 0
   have f1 := zak hF 1
   simp only [List.getElem?_toArray] at f0 f1
   refine bodyPost_ret (v := .tuple #[.agg #[.int .i64 0, .string ⟨#[]⟩], .int .i64 0, .int .i64 20]) ?_ rfl ⟨by rw [HX.out]; rfl, zef HB2.out (Nat.le_refl _)⟩
   simp [results, Tryz.results150, go_sem, f0, f1]
 have hd : decide ((5 : Int) ≤ (s.size : Int) - (a : Int)) = true := by simp; omega
 rw [hd] at C2
 have C3 := hid (fun W (h : ERd W (w.heap.size + 1) s a) => zc4 (w.heap.size + 1) s a 3 W h (by omega) (by omega))
 have C3 := C3.out
 rw [zhe (by omega)] at C3
 have C3 := hid C3
 obtain ⟨c0, q0⟩ : ∃ c, s[a]'(by omega) = c := ⟨_, rfl⟩
 obtain ⟨c1, q1⟩ : ∃ c, s[a + 1]'(by omega) = c := ⟨_, rfl⟩
 obtain ⟨c2, q2⟩ : ∃ c, s[a + 2]'(by omega) = c := ⟨_, rfl⟩
 rw [q0, q1, q2] at C3
 go_enter Tryz.func150, Tryz.ntmps150
 go_wp2_with fail
 clear hW0
 refine C1.out.mono ?_
 rintro e w1 ⟨rfl, hb1⟩
 have r1 := RowAt.run H0.out.1 hb1
 have e1 : ERd w1 (w.heap.size + 1) s a := RowAt.run H0.out.2.1 hb1
 have B1 := H0.out.2.2.trans (hb1.mono H0.out.2.2.size)
 have H1 := hid (And.intro r1 (And.intro e1 B1))
 clear hb1 r1 e1 B1
 go_wp2_with fail
 refine (C2.out _ H1.out.2.1).mono ?_
 rintro e w2 ⟨rfl, hb2⟩
 have H2 := hid (And.intro (RowAt.run H1.out.1 hb2) (And.intro (show ERd w2 (w.heap.size + 1) s a from RowAt.run H1.out.2.1 hb2) (H1.out.2.2.trans (hb2.mono H1.out.2.2.size))))
 clear hb2
 go_wp2_with fail
 refine (C3.out _ H2.out.2.1).mono ?_
 rintro e w3 ⟨rfl, he3, hu3⟩
 have H3 := hid (And.intro (RowAt.upd H2.out.1 hu3 (by omega)) (And.intro he3 (zaw H2.out.2.2 hu3 (by omega))))
 clear he3 hu3
 have hl : (str [c0, c1, c2]).size = 3 := by rw [zar]; rfl
 go_wp2
 go_quiet (fail)
 go_wp2_with fail
 have g1 : (str [c0, c1, c2])[1] = c1 := rfl
 have g2 : (str [c0, c1, c2])[2] = c2 := rfl
 obtain ⟨n, hn⟩ : ∃ n, c1.toNat * 256 + c2.toNat = n := ⟨_, rfl⟩
 have hn6 : n < 65536 := by have := c1.toNat_lt; have := c2.toNat_lt; omega
 have ho := zwo c1 c2 n hn.symm
 have hw2 : wrap64 ((n : Int) + 2) = ((n + 2 : Nat) : Int) := by unfold wrap64; omega
 simp only [g1, g2, ho, hw2]
 have HE : nextR s a = if s.size < a + 5 + n then .error 20 else if (s.extract (a + 3 + n) (a + 3 + n + 2) != str (wordB (sumN (str [c0, c1, c2] ++ s.extract (a + 3) (a + 3 + n)).data.toList))) = true then .error 17 else .ok ((c0, s.extract (a + 3) (a + 3 + n)), a + 5 + n) := by
   rw [nextR, dif_neg h5]
   simp only [q0, q1, q2, hn, zhe (show a + 3 ≤ s.size by omega)]
 have C4 := zdi (w.heap.size + 1) s (a + 3) ((n + 2 : Nat) : Int) (w3.drewN nq) (RowAt.drewN H3.out.2.1 nq) (by omega) (by omega) (by omega)
 have H4 := hid (And.intro (RowAt.drewN H3.out.1 nq) (And.intro (show ERd (w3.drewN nq) (w.heap.size + 1) s (a + 3) from RowAt.drewN H3.out.2.1 nq) (show Below w.heap.size w (w3.drewN nq) from by have := H3.out.2.2; exact bel)))
 generalize w3.drewN nq = w4 at C4 H4 ⊢
 clear g1 g2 ho hw2 q0 q1 q2 hd hl
 by_cases h6 : s.size < a + 5 + n
 · have hd : decide (((n + 2 : Nat) : Int) ≤ (s.size : Int) - ((a + 3 : Nat) : Int)) = false := by simp; omega
   rw [hd] at C4
   have HX := hid (show nextR s a = .error 20 from by rw [HE, if_pos h6])
   refine C4.mono ?_
   rintro e w5 ⟨rfl, hb5⟩
   have r5 := RowAt.run H4.out.1 hb5
   have HR2 := hid r5
   have HB2 := hid (H4.out.2.2.trans (hb5.mono H4.out.2.2.size))
   obtain ⟨x1, x2, x3, x4, x5, x6⟩ := zaa r5
   clear hb5 r5 HE h6 hd
   go_wp2
   have hF : RowAt ((w5.setCell ⟨w.heap.size, 0, none⟩ (.int .i64 0)).setCell ⟨w.heap.size, 1, none⟩ (.string ⟨#[]⟩)) w.heap.size 77 #[.int .i64 0, .string ⟨#[]⟩] := zes HR2.out
   have f0 := zak hF 0
   have f1 := zak hF 1
   simp only [List.getElem?_toArray] at f0 f1
   refine bodyPost_ret (v := .tuple #[.agg #[.int .i64 0, .string ⟨#[]⟩], .int .i64 0, .int .i64 20]) ?_ rfl ⟨by rw [HX.out]; rfl, zef HB2.out (Nat.le_refl _)⟩
   simp [results, Tryz.results150, go_sem, f0, f1]
 have hd : decide (((n + 2 : Nat) : Int) ≤ (s.size : Int) - ((a + 3 : Nat) : Int)) = true := by simp; omega
 rw [hd] at C4
 rw [if_neg h6] at HE
 have C5 := hid (fun W (h : ERd W (w.heap.size + 1) s (a + 3)) => zc4 (w.heap.size + 1) s (a + 3) n W h (by omega) (by omega))
 have C6 := hid (fun W (h : ERd W (w.heap.size + 1) s (a + 3 + n)) => zc4 (w.heap.size + 1) s (a + 3 + n) 2 W h (by omega) (by omega))
 refine C4.mono ?_
 rintro e w5 ⟨rfl, hb5⟩
 have H5 := hid (And.intro (RowAt.run H4.out.1 hb5) (And.intro (show ERd w5 (w.heap.size + 1) s (a + 3) from RowAt.run H4.out.2.1 hb5) (H4.out.2.2.trans (hb5.mono H4.out.2.2.size))))
 clear hb5 hd
 go_wp2_with fail
 refine (C5.out _ H5.out.2.1).mono ?_
 rintro e w6 ⟨rfl, he6, hu6⟩
 have H6 := hid (And.intro (RowAt.upd H5.out.1 hu6 (by omega)) (And.intro he6 (zaw H5.out.2.2 hu6 (by omega))))
 clear he6 hu6
 go_wp2_with fail
 refine (C6.out _ H6.out.2.1).mono ?_
 rintro e w7 ⟨rfl, he7, hu7⟩
 have H7 := hid (And.intro (RowAt.upd H6.out.1 hu7 (by omega)) (And.intro he7 (zaw H6.out.2.2 hu7 (by omega))))
 clear he7 hu7
 have hdl : (s.extract (a + 3) (a + 3 + n)).size = n := by rw [ByteArray.size_extract]; omega
 obtain ⟨D, hD⟩ : ∃ D, s.extract (a + 3) (a + 3 + n) = D := ⟨_, rfl⟩
 obtain ⟨P, hP⟩ : ∃ P, s.extract (a + 3 + n) (a + 3 + n + 2) = P := ⟨_, rfl⟩
 rw [hD] at hdl
 rw [hD, hP] at HE
 simp only [hD, hP]
 have hl : (str [c0, c1, c2]).size = 3 := by rw [zar]; rfl
 have hs1 : ¬ 9223372036854775807 < (str [c0, c1, c2]).size + D.size := by omega
 have C7 := hid (zeq (str [c0, c1, c2] ++ D) w7 (by rw [ByteArray.size_append]; omega))
 have C8 := hid (zgm (sumN (str [c0, c1, c2] ++ D).data.toList) w7 (ze7 _))
 go_wp2_with fail
 refine C7.out.mono ?_
 rintro e w8 ⟨rfl, rfl⟩
 go_wp2_with fail
 refine C8.out.mono ?_
 rintro e w9 ⟨rfl, hb9⟩
 have H9 := hid (And.intro (RowAt.run H7.out.1 hb9) (And.intro (show ERd w9 (w.heap.size + 1) s (a + 3 + n + 2) from RowAt.run H7.out.2.1 hb9) (H7.out.2.2.trans (hb9.mono H7.out.2.2.size))))
 obtain ⟨x1, x2, x3, x4, x5, x6⟩ := zaa H9.out.1
 obtain ⟨y1, y2, y3, y4, y5, y6⟩ := zaa H9.out.2.1
 generalize str (wordB (sumN (str [c0, c1, c2] ++ D).data.toList)) = Q at HE ⊢
 obtain ⟨t, ht⟩ : ∃ t, (P != Q) = t := ⟨_, rfl⟩
 rw [ht] at HE
 have ht2 : (!P.toList == Q.toList) = t := by rw [← beq_toListBytes]; exact ht
 clear ht
 clear hb9 hD hP hs1 hdl
 cases t with
 | true =>
   have HX := hid (show nextR s a = .error 17 from HE)
   clear HE
   go_wp2
   have hF : RowAt ((w9.setCell ⟨w.heap.size, 0, none⟩ (.int .i64 0)).setCell ⟨w.heap.size, 1, none⟩ (.string ⟨#[]⟩)) w.heap.size 77 #[.int .i64 0, .string ⟨#[]⟩] := zes H9.out.1
   have f0 := zak hF 0
   have f1 := zak hF 1
   simp only [List.getElem?_toArray] at f0 f1
   refine bodyPost_ret (v := .tuple #[.agg #[.int .i64 0, .string ⟨#[]⟩], .int .i64 0, .int .i64 17]) ?_ rfl ⟨by rw [HX.out]; rfl, zef H9.out.2.2 (Nat.le_refl _)⟩
   simp [results, Tryz.results150, go_sem, f0, f1]
 | false =>
   have HX := hid (show nextR s a = .ok ((c0, D), a + 5 + n) from HE)
   clear HE
   have g0 : (str [c0, c1, c2])[0] = c0 := rfl
   have h0 : IntKind.i64.wrap ((c0.toNat : Nat) : Int) = (c0.toNat : Int) := IntWalk.i64_in _ (by have := c0.toNat_lt; omega)
   have z1 := y1 1
   simp at z1
   go_wp2
   go_region_held3 (fun w' => w'.cell? ⟨w.heap.size + 1, 1, none⟩ = some (.int .i64 ((a : Int) + 3 + (n : Int) + 2))) (first | go_keep | assumption) (fail)
   all_goals
    go_wp2
    have hF : RowAt ((w9.setCell ⟨w.heap.size, 0, none⟩ (.int .i64 (c0.toNat : Int))).setCell ⟨w.heap.size, 1, none⟩ (.string D)).drew w.heap.size 77 #[.int .i64 (c0.toNat : Int), .string D] := RowAt.drew (zes H9.out.1)
    have f0 := zak hF 0
    have f1 := zak hF 1
    simp only [List.getElem?_toArray] at f0 f1
    refine bodyPost_ret (v := .tuple #[.agg #[.int .i64 (c0.toNat : Int), .string D], .int .i64 ((a : Int) + 3 + (n : Int) + 2), .int .i64 0]) ?_ rfl ⟨by rw [HX.out, nextV, show (((a + 5 + n : Nat)) : Int) = (a : Int) + 3 + (n : Int) + 2 from by omega], (zef H9.out.2.2 (Nat.le_refl _)).drew⟩
    simp [results, Tryz.results150, go_sem, f0, f1]
theorem Tryz.info_ent : (Tryz.prog.info? 77).map (fun i => (i.zero, i.size, i.bytes)) = some (some (.agg #[.int .i64 0, .string ⟨#[]⟩]), 2, 24) := by kernel_rfl
theorem ze9 (x : Ent) : ∀ u ∈ (entA x).toList, u.oneCell' = true := by
 intro u hu
 simp [entA] at hu
 rcases hu with rfl | rfl <;> rfl
theorem zgz (x : Ent) : (entA x).size = 2 := rfl
def allF (s : ByteArray) : Nat → Nat → List Ent × Nat × Int
 | 0, a => ([], a, 0)
 | f + 1, a => if a < s.size then match nextR s a with
   | .error e => ([], a, e)
   | .ok (x, nx) => (x :: (allF s f nx).1, (allF s f nx).2)
   else ([], a, 0)
def allR (s : ByteArray) : List Ent × Nat × Int := allF s (s.size + 1) 0
theorem zke {s : ByteArray} {a nx : Nat} {x : Ent} (h : nextR s a = .ok (x, nx)) : a + 5 ≤ nx ∧ nx ≤ s.size := by
 unfold nextR at h
 split at h
 · cases h
 simp only at h
 split at h
 · cases h
 split at h
 · cases h
 simp only [Except.ok.injEq, Prod.mk.injEq] at h
 omega
theorem zwr {s : ByteArray} {a : Nat} {c : Int} (h : nextR s a = .error c) : c = 20 ∨ c = 17 := by
 unfold nextR at h
 split at h
 · cases h; exact .inl rfl
 simp only at h
 split at h
 · cases h; exact .inl rfl
 split at h
 · cases h; exact .inr rfl
 cases h
def LoopA (s : ByteArray) (l : List Ent) (c : Nat) : Prop :=
 allR s = (l ++ (allF s (s.size + 1 - l.length) c).1, (allF s (s.size + 1 - l.length) c).2) ∧ 5 * l.length ≤ c ∧ c ≤ s.size
theorem LoopA.start (s : ByteArray) : LoopA s [] 0 := ⟨rfl, by simp, Nat.zero_le _⟩
theorem LoopA.step {s : ByteArray} {l : List Ent} {c nx : Nat} {x : Ent} (h : LoopA s l c) (hc : c < s.size) (hx : nextR s c = .ok (x, nx)) : LoopA s (l ++ [x]) nx := by
 obtain ⟨h1, h2, h3⟩ := h
 have := zke hx
 obtain ⟨f, hf⟩ : ∃ f, s.size + 1 - l.length = f + 1 := ⟨s.size - l.length, by omega⟩
 refine ⟨?_, by simp; omega, by omega⟩
 rw [h1, hf, allF, if_pos hc, hx, List.length_append, show s.size + 1 - (l.length + [x].length) = f from by simp; omega]
 simp
theorem LoopA.fail {s : ByteArray} {l : List Ent} {c : Nat} {e : Int} (h : LoopA s l c) (hc : c < s.size) (hx : nextR s c = .error e) : allR s = (l, c, e) := by
 obtain ⟨h1, h2, h3⟩ := h
 obtain ⟨f, hf⟩ : ∃ f, s.size + 1 - l.length = f + 1 := ⟨s.size - l.length, by omega⟩
 rw [h1, hf, allF, if_pos hc, hx]
 simp
theorem LoopA.stop {s : ByteArray} {l : List Ent} {c : Nat} (h : LoopA s l c) (hc : ¬ c < s.size) : allR s = (l, c, 0) := by
 obtain ⟨h1, h2, h3⟩ := h
 obtain ⟨f, hf⟩ : ∃ f, s.size + 1 - l.length = f + 1 := ⟨s.size - l.length, by omega⟩
 rw [h1, hf, allF, if_neg hc]
 simp
def AllPost (s : ByteArray) (w : World) (e : Ending) (w' : World) : Prop :=
 ∃ v, e = .returned (.tuple #[v, .int .i64 ((allR s).2.1 : Int), .int .i64 (allR s).2.2]) ∧ w'.ownsRow w.heap.size 77 2 v (allR s).1.length (genL entA (allR s).1) ∧ Below w.heap.size w w' ∧ (allR s).1.length ≤ s.size
theorem zg2 (s : ByteArray) (w : World) (hs : s.size ≤ 100000) :
  Calls Tryz.prog 65 #[.string s] w fun e w' => AllPost s w e w' := by
 obtain ⟨i0, hi, hz0, hz1, hz2⟩ := info_parts Tryz.info_ent
 have hs3 : (s.size : Int) ≤ 100000 := by omega
 go_enter Tryz.func65, Tryz.ntmps65
 go_wp2
 go_loopw [5, 6, 7, 8, 9] (fun v i _ _ _ wr => ∃ (l : List Ent) (c : Nat), i = .int .i64 (c : Int) ∧ Hid (LoopA s l c ∧ wr.ownsRow w.heap.size 77 2 v l.length (genL entA l) ∧ Below w.heap.size w wr)) (fun _ i _ _ _ _ => s.size - (intOf i).toNat)
 case atStart => exact ⟨[], 0, rfl, hid ⟨LoopA.start s, World.ownsRow_nil _ _ _ _, Below.refl _ _⟩⟩
 case round =>
  obtain ⟨l, c, rfl, hh⟩ := hrel
  obtain ⟨hl, hown, hb0⟩ := hh.out
  by_cases hlt : c < s.size
  · have hlt3 : (c : Int) < (s.size : Int) := by omega
    have hbs := hb0.size
    have hfew : 5 * l.length ≤ 100000 := by have := hl.2.1; omega
    have C := hid (fun W => zc1 s c W (by omega) hs)
    cases hx : nextR s c with
    | error e =>
      have he := zwr hx
      have he0 : (e != 0) = true := by rw [bne_iff_ne]; omega
      have HX := hid (hl.fail hlt hx)
      have C' := C.out
      rw [hx] at C'
      simp only [nextV] at C'
      have HC := hid C'
      have HH := hid (And.intro hown (And.intro hb0 hl.2))
      clear hx C C' hl hown hb0 hh he
      go_wp2_with fail
      refine (HC.out _).mono ?_
      rintro e2 w1 ⟨rfl, hb1⟩
      have HB1 := hid (And.intro (zcw HH.out.1 hb1) (HH.out.2.1.trans (hb1.mono hbs)))
      clear hb1
      go_wp2
      go_ret3
      refine ⟨u5, by rw [HX.out]; rfl, ?_, ?_, ?_⟩
      · rw [HX.out]
        exact HB1.out.1.alloc _
      · have := HB1.out.2
        have := HB1.out.2.size
        exact bel
      rw [HX.out]
      have := HH.out.2.2
      show l.length ≤ s.size
      omega
    | ok y =>
      obtain ⟨⟨kd, d⟩, nx⟩ := y
      have hno := zke hx
      have HST := hid (hl.step hlt hx)
      have C' := C.out
      rw [hx] at C'
      simp only [nextV] at C'
      have HC := hid C'
      have HH := hid (And.intro hown hb0)
      clear hx C C' hl hown hb0 hh
      go_wp2_with fail
      refine (HC.out _).mono ?_
      rintro e2 w1 ⟨rfl, hb1⟩
      have hown1 := zcw HH.out.1 hb1
      have HB1 := hid (HH.out.2.trans (hb1.mono hbs))
      have hb1s := hb1.size
      clear hb1
      go_wp2_with (at_builtin; refine wpList_append_own _ rfl _ _ 34 rfl w.heap.size 77 i0 _ 2 24 Tryz.underlying34 hi hz0 hz1 hz2 rfl (by decide) _ _ _ rfl ((hown1.alloc _).alloc _) ⟨w1.heap.size + 1, 0, none⟩ 1 1 [.int .i64 (kd.toNat : Int), .string d] rfl rfl ?c1 (ze9 (kd, d)) ?c3 ?c4 ?c5 ?_)
      case c1 => exact World.news_of_block (cs := #[.int .i64 (kd.toNat : Int), .string d]) (t := 77) (fr := (0, 0)) (by simpa using heap_alloc_new (w1.alloc (.cells #[.int .i64 (kd.toNat : Int), .string d] 77)) (.cells #[.int .i64 (kd.toNat : Int), .string d] 77))
      case c3 => unfold maxLen; omega
      case c4 => omega
      case c5 => simp; omega
      intro v' w2 hown' hgrow _
      have hb2 := zb9 (((HB1.out.alloc (by omega) _).alloc (by simp; omega) _)) ((hown1.alloc _).alloc _) (Nat.le_refl _) hgrow (by simp; omega)
      have HN := hid (And.intro hown' hb2)
      clear hown' hgrow hown1 hb2
      go_wp2
      go_roundw
      case rel => exact ⟨l ++ [(kd, d)], nx, rfl, hid ⟨HST.out, by rw [List.length_append, zdf]; exact HN.out.1, HN.out.2⟩⟩
      case measure => simp [intOf]; omega
  have HX := hid (hl.stop hlt)
  have hlt3 : ¬ (c : Int) < (s.size : Int) := by omega
  have HH := hid (And.intro hown (And.intro hb0 hl.2))
  clear hl hown hb0 hh
  go_wp2
  go_ret3
  refine ⟨u5, by rw [HX.out]; rfl, by rw [HX.out]; exact HH.out.1, HH.out.2.1, ?_⟩
  rw [HX.out]
  have := HH.out.2.2
  show l.length ≤ s.size
  omega
def BadN (n : Int) : Ending := .panicked [{ v := .iface 200 (.agg #[.int .i64 n]), recovered := false }]
theorem zwy (n : Int) (k : Nat) (older : List PanicEntry) (w : World) (h : RowAt w k 35 #[.int .i64 0]) :
  CallsD Tryz.prog 132 #[.pointer (some ⟨k, 0, none⟩)] (.panicking ({ v := .iface 200 (.agg #[.int .i64 n]), recovered := false } :: older)) w fun e u' w' =>
   e = .returned (.tuple #[]) ∧ u' = .panicking ({ v := .iface 200 (.agg #[.int .i64 n]), recovered := true } :: older) ∧ RowAt w' k 35 #[.int .i64 n] ∧ Upd k w w' := by
 obtain ⟨x1, x2, x3, x4, x5, x6⟩ := zaa h
 have h1 : RowAt (w.setCell ⟨k, 0, none⟩ (.int .i64 n)) k 35 #[.int .i64 n] := RowAt.set h rfl
 have h2 : RowAt ((w.setCell ⟨k, 0, none⟩ (.int .i64 n)).alloc (.cells #[.int .i64 n] 200)) k 35 #[.int .i64 n] := RowAt.alloc h1 _
 have h3 : Upd k w (w.setCell ⟨k, 0, none⟩ (.int .i64 n)) := zav (za5 _ _) _ _
 have h4 : Upd k w ((w.setCell ⟨k, 0, none⟩ (.int .i64 n)).alloc (.cells #[.int .i64 n] 200)) := ze6 h3 _
 have HS := hid (And.intro h2 h4)
 clear h1 h2 h3 h4
 clear h
 have hta := zw8 (.agg #[.int .i64 n])
 refine callsD_of_wpS Tryz.func132 rfl fun c₀ cs hu => ?_
 apply wpS_seq
 apply wpS_region
 simp [wpOpsS, go_sem, recoverD, hu, Tryz.ntmps132, Exit.thenS]
 refine wpS_of_wp ?_
 simp only [List.replicate, Array.replicate]
 go_wp2
 exact ⟨rfl, _, rfl, _, results_none rfl _ _ _, rfl, rfl, HS.out.1, HS.out.2⟩
theorem zrw (n : Int) (K : Nat) (caps : Array Value) (w : World) (R : World → Prop)
  (hk : ∀ args W, (callFunc K args).run Tryz.prog W = .ok (.enter K args) W)
  (h : Calls Tryz.prog K caps (w.alloc (.cells #[.int .i64 0] 35)) fun e w' => e = BadN n ∧ RowAt w' w.heap.size 35 #[.int .i64 0] ∧ R w')
  : Calls Tryz.prog 49 #[.func (.func K) #[] caps] w fun e w' => e = .returned (.int .i64 n) ∧ ∃ w1, R w1 ∧ Upd w.heap.size w1 w' := by
 have hmf : ∀ (fn : Fn) (first cap : Array Value) (w : World), (Instr.makeFunc fn first cap).run Tryz.prog w = .ok (.func fn first cap) w := fun _ _ _ _ => rfl
 have HC := hid h
 clear h
 go_enter_defers Tryz.func49, Tryz.ntmps49
 go_wp2_with fail
 refine HC.out.mono ?_
 rintro e w1 ⟨rfl, hr1, hR⟩
 simp only [BadN]
 go_wp2
 refine leaves_cons (f := 132) (args := #[.pointer (some ⟨w.heap.size, 0, none⟩)]) (by simp) (by simp [go_sem]) ?_
 refine (zwy n w.heap.size [] _ hr1).mono ?_
 rintro e u' w2 ⟨rfl, rfl, hr2, hu2⟩
 have f0 := zak hr2 0
 simp at f0
 exact ⟨_, by simp [results, Tryz.results49, go_sem, f0], rfl, _, hR, hu2⟩
def folB (b k : Int) : Bool :=
 if b = 0 ∨ k = 1 then decide (b = 0 ∧ k = 1) else if b = 11 then false else if k = 8 then decide (b = 7 ∨ b = 8) else if k = 7 ∧ b = 8 then true else decide (b ≤ k)
theorem zh6 (b k : Int) (w : World) :
   Calls Tryz.prog 48 #[.int .i64 b, .int .i64 k] w fun e w' => e = .returned (.bool (folB b k)) ∧ w' = w := by
 obtain ⟨r, hr⟩ : ∃ r, folB b k = r := ⟨_, rfl⟩
 rw [hr]
 have HR := hid hr
 clear hr
 by_cases h1 : b = 0
 · by_cases h2 : k = 1
   · subst h1 h2
     go_enter Tryz.func48, Tryz.ntmps48
     go_wp2
     go_ret
     exact ⟨by rw [← HR.out]; rfl, rfl⟩
   subst h1
   have h2' : (k == 1) = false := by simpa using h2
   go_enter Tryz.func48, Tryz.ntmps48
   go_wp2
   go_ret
   exact ⟨by rw [← HR.out]; simp [folB, h2], rfl⟩
 have h1' : (b == 0) = false := by simpa using h1
 by_cases h2 : k = 1
 · subst h2
   go_enter Tryz.func48, Tryz.ntmps48
   go_wp2
   go_ret
   exact ⟨by rw [← HR.out]; simp [folB, h1], rfl⟩
 have h2' : (k == 1) = false := by simpa using h2
 by_cases h3 : b = 11
 · subst h3
   go_enter Tryz.func48, Tryz.ntmps48
   go_wp2
   go_ret
   exact ⟨by rw [← HR.out]; simp [folB, h2], rfl⟩
 have h3' : (b == 11) = false := by simpa using h3
 by_cases h4 : k = 8
 · subst h4
   by_cases h5 : b = 7
   · subst h5
     go_enter Tryz.func48, Tryz.ntmps48
     go_wp2
     go_ret
     exact ⟨by rw [← HR.out]; rfl, rfl⟩
   have h5' : (b == 7) = false := by simpa using h5
   by_cases h6 : b = 8
   · subst h6
     go_enter Tryz.func48, Tryz.ntmps48
     go_wp2
     go_ret
     exact ⟨by rw [← HR.out]; rfl, rfl⟩
   have h6' : (b == 8) = false := by simpa using h6
   go_enter Tryz.func48, Tryz.ntmps48
   go_wp2
   go_ret
   exact ⟨by rw [← HR.out]; simp [folB, h1, h3, h5, h6], rfl⟩
 have h4' : (k == 8) = false := by simpa using h4
 by_cases h5 : k = 7
 · subst h5
   by_cases h6 : b = 8
   · subst h6
     go_enter Tryz.func48, Tryz.ntmps48
     go_wp2
     go_ret
     exact ⟨by rw [← HR.out]; rfl, rfl⟩
   have h6' : (b == 8) = false := by simpa using h6
   go_enter Tryz.func48, Tryz.ntmps48
   go_wp2
   go_ret
   exact ⟨by rw [← HR.out]; simp [folB, h1, h3, h6], rfl⟩
 have h5' : (k == 7) = false := by simpa using h5
 go_enter Tryz.func48, Tryz.ntmps48
 go_wp2
 go_ret
 exact ⟨by rw [← HR.out]; simp [folB, h1, h2, h3, h4, h5], rfl⟩
end Go.Proofs.YtjeigphhepngmaaGreatDoor
