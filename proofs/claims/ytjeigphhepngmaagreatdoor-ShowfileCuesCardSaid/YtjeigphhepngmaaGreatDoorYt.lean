/-
  Cues that the reference writes.
-/
import Derived.Test.YtjeigphhepngmaaGreatDoorYs
import Derived.Test.YtjeigphhepngmaaGreatDoorYh
import Derived.Test.YtjeigphhepngmaaGreatDoorYn
namespace Go.Proofs.YtjeigphhepngmaaGreatDoor
open Go.RowKit

theorem cell_g {w : World} {b T : Nat} {cs : Array Value} (h : RowAt w b T cs) (o : Nat) : w.cell? ⟨b, o, none⟩ = cs[o]? := (row_facts h).1 o
theorem str_size (l : List UInt8) : ((str l).size : Int) = (l.length : Int) := by rw [str_length]
theorem len_intB {n : Int} (h : -9223372036854775808 ≤ n ∧ n ≤ 9223372036854775807) : (intB n).length ≤ 10 := intB_len h.1 h.2

set_option maxHeartbeats 4000000 in
set_option maxRecDepth 100000 in
theorem r50written_any (c : CueD) (v1 v2 : Value) (w : World) (h : CueAt w v1 v2 c) (hc : Cue64 c) (hlen : (cueB c).length ≤ 1000000000) :
    Calls Tryz.prog 73 #[.agg #[.string c.num, .string c.lab, v1, v2, .bool c.block, .bool c.mark, .int .i64 c.follow, .string c.link, .int .i64 c.loops]] w fun e w' => e = .returned (.string (str (cueB c))) ∧ Below w.heap.size w w' := by
  have hsh1 : ∃ a cap, v1 = .slice a c.moves.length cap ∧ c.moves.length ≤ 140737488351232 := by
    rcases h.moves with ⟨h0, a, cap, rfl⟩ | ⟨_, h1, g, off, cap, rfl, _⟩
    · exact ⟨a, cap, by rw [h0], by omega⟩
    · exact ⟨_, _, rfl, h1⟩
  have hsh2 : ∃ a cap, v2 = .slice a c.parts.length cap ∧ c.parts.length ≤ 140737488351232 := by
    rcases h.parts with ⟨h0, a, cap, rfl⟩ | ⟨_, h1, g, off, cap, rfl, _⟩
    · exact ⟨a, cap, by rw [h0], by omega⟩
    · exact ⟨_, _, rfl, h1⟩
  obtain ⟨a1, cap1, rfl, hml⟩ := hsh1
  obtain ⟨a2, cap2, rfl, hpl⟩ := hsh2
  have HL := Lib.hid (show (textB c.num).length + (textB c.lab).length + (intB c.moves.length).length + (c.moves.flatMap mvB).length + (intB c.parts.length).length + (c.parts.flatMap timB).length + (intB (truthI c.block)).length + (intB (truthI c.mark)).length + (intB c.follow).length + (textB c.link).length + (intB c.loops).length ≤ 1000000000 from by
    simp only [cueB, List.length_append] at hlen
    omega)
  obtain ⟨X1, hX1⟩ : ∃ x, str (textB c.num) = x := ⟨_, rfl⟩
  obtain ⟨X2, hX2⟩ : ∃ x, str (textB c.lab) = x := ⟨_, rfl⟩
  obtain ⟨X3, hX3⟩ : ∃ x, str (intB c.moves.length) = x := ⟨_, rfl⟩
  have z1 : (X1.size : Int) ≤ 1000000000 := by rw [← hX1, str_size]; have := HL.out; omega
  have z2 : (X2.size : Int) ≤ 1000000000 := by rw [← hX2, str_size]; have := HL.out; omega
  have z3 : (X3.size : Int) ≤ 1000000000 := by rw [← hX3, str_size]; have := HL.out; omega
  have C1 := fun W => r50text_any c.num W hc.num
  have C2 := fun W => r50text_any c.lab W hc.lab
  have C3 := fun W => rint_any (c.moves.length : Int) W (by omega) (by omega)
  rw [hX1] at C1
  rw [hX2] at C2
  rw [hX3] at C3
  have K1 := Lib.hid C1
  have K2 := Lib.hid C2
  have K3 := Lib.hid C3
  have HX := Lib.hid (show X1 ++ X2 ++ X3 = str (textB c.num ++ textB c.lab ++ intB c.moves.length) from by rw [← hX1, ← hX2, ← hX3, str_append, str_append])
  have s12 : ¬ 9223372036854775807 < (X1.size : Int) + (X2.size : Int) := by omega
  have s12a : (X1.size : Int) + (X2.size : Int) ≤ 9223372036854775807 := by omega
  have s12b : X1.size + X2.size ≤ 9223372036854775807 := by omega
  have s12c : ¬ 9223372036854775807 < X1.size + X2.size := by omega
  have s123 : ¬ 9223372036854775807 < (X1.size : Int) + (X2.size : Int) + (X3.size : Int) := by omega
  have s123a : (X1.size : Int) + (X2.size : Int) + (X3.size : Int) ≤ 9223372036854775807 := by omega
  have s123b : X1.size + X2.size + X3.size ≤ 9223372036854775807 := by omega
  have s123c : ¬ 9223372036854775807 < X1.size + X2.size + X3.size := by omega
  have s124 : ((X1 ++ X2).size : Int) = (X1.size : Int) + (X2.size : Int) := by simp [ByteArray.size_append]
  have s125 : ¬ 9223372036854775807 < ((X1 ++ X2).size : Int) + (X3.size : Int) := by omega
  have HC := Lib.hid hc
  have HA := Lib.hid h
  obtain ⟨n, hn⟩ : ∃ n, c.moves.length = n := ⟨_, rfl⟩
  clear hX1 hX2 hX3 C1 C2 C3 hlen h hc
  have hrow : RowAt (w.alloc (.cells #[.string c.num, .string c.lab, .slice a1 c.moves.length cap1, .slice a2 c.parts.length cap2, .bool c.block, .bool c.mark, .int .i64 c.follow, .string c.link, .int .i64 c.loops] 64)) w.heap.size 64 #[.string c.num, .string c.lab, .slice a1 c.moves.length cap1, .slice a2 c.parts.length cap2, .bool c.block, .bool c.mark, .int .i64 c.follow, .string c.link, .int .i64 c.loops] := RowAt.new _ _ _
  have hbZ : Below w.heap.size w (w.alloc (.cells #[.string c.num, .string c.lab, .slice a1 c.moves.length cap1, .slice a2 c.parts.length cap2, .bool c.block, .bool c.mark, .int .i64 c.follow, .string c.link, .int .i64 c.loops] 64)) := by (repeat' (first | (with_reducible exact Below.refl _ _) | (with_reducible assumption) | (with_reducible refine below_run ?_ (by assumption)) | (with_reducible refine below_of_upd ?_ (by assumption) ?_) | (with_reducible refine below_drewN ?_ _) | (with_reducible refine Below.drew ?_) | (with_reducible refine below_seven ?_ ?_) | (with_reducible refine below_six ?_ ?_) | (with_reducible refine below_one ?_ ?_) | (with_reducible refine Below.alloc ?_ ?_ _) | (with_reducible refine below_after ?_ ?_ (by assumption)) | (show _ ≤ _; first | omega | (simp; done) | (simp; omega))))
  have HR := Lib.hid (And.intro hrow hbZ)
  clear hrow hbZ hn n
  go_enter Tryz.func73, Tryz.ntmps73
  go_wp2_with fail
  obtain ⟨Z, hZ⟩ : ∃ Z, w.alloc (.cells #[.string c.num, .string c.lab, .slice a1 c.moves.length cap1, .slice a2 c.parts.length cap2, .bool c.block, .bool c.mark, .int .i64 c.follow, .string c.link, .int .i64 c.loops] 64) = Z := ⟨_, rfl⟩
  rw [hZ] at HR ⊢
  clear hZ
  have HK := Lib.hid (fun (W : World) (hb5 : Below Z.heap.size Z W) => (And.intro (cell_g (HR.out.1.run hb5) 0) (And.intro (cell_g (HR.out.1.run hb5) 1) (cell_g (HR.out.1.run hb5) 2))))
  obtain ⟨x0, x1, x2⟩ := HK.out Z (Below.refl _ _)
  go_cut [3] (fun s3 wx => s3 = .string (X1 ++ X2 ++ X3) ∧ Below Z.heap.size Z wx)
  case first =>
    go_region_held3 (fun w' => w'.cell? ⟨w.heap.size, 0, none⟩ = some (.string c.num) ∧ w'.cell? ⟨w.heap.size, 1, none⟩ = some (.string c.lab) ∧ w'.cell? ⟨w.heap.size, 2, none⟩ = some (.slice a1 c.moves.length cap1)) (first | exact HK.out _ (by (repeat' (first | (with_reducible exact Below.refl _ _) | (with_reducible assumption) | (with_reducible refine below_run ?_ (by assumption)) | (with_reducible refine below_of_upd ?_ (by assumption) ?_) | (with_reducible refine below_drewN ?_ _) | (with_reducible refine Below.drew ?_) | (with_reducible refine below_seven ?_ ?_) | (with_reducible refine below_six ?_ ?_) | (with_reducible refine below_one ?_ ?_) | (with_reducible refine Below.alloc ?_ ?_ _) | (with_reducible refine below_after ?_ ?_ (by assumption)) | (show _ ≤ _; first | omega | (simp; done) | (simp; omega))))) | go_keep)
      (first | (go_at_call 113; (with_reducible refine (K1.out _).mono ?_); rintro e w4 ⟨rfl, hb4⟩) | (go_at_call 113; (with_reducible refine (K2.out _).mono ?_); rintro e w5 ⟨rfl, hb5⟩) | (go_at_call 112; (with_reducible refine (K3.out _).mono ?_); rintro e w6 ⟨rfl, hb6⟩))
    all_goals (go_wp2_with fail; go_meet)
    all_goals exact ⟨rfl, by (repeat' (first | (with_reducible exact Below.refl _ _) | (with_reducible assumption) | (with_reducible refine below_run ?_ (by assumption)) | (with_reducible refine below_of_upd ?_ (by assumption) ?_) | (with_reducible refine below_drewN ?_ _) | (with_reducible refine Below.drew ?_) | (with_reducible refine below_seven ?_ ?_) | (with_reducible refine below_six ?_ ?_) | (with_reducible refine below_one ?_ ?_) | (with_reducible refine Below.alloc ?_ ?_ _) | (with_reducible refine below_after ?_ ?_ (by assumption)) | (show _ ≤ _; first | omega | (simp; done) | (simp; omega))))⟩
  case rest =>
    obtain ⟨rfl, hbc⟩ := hcut
    rw [HX.out]
    have hrc := HR.out.1.run hbc
    have H1 := Lib.hid (And.intro hrc (HR.out.2.trans (hbc.mono HR.out.2.size)))
    have hP := Lib.hid (show (textB c.num ++ textB c.lab ++ intB c.moves.length).length + (c.moves.flatMap mvB).length ≤ 1000000000 from by have := HL.out; simp only [List.length_append]; omega)
    obtain ⟨P, hPe⟩ : ∃ P, textB c.num ++ textB c.lab ++ intB c.moves.length = P := ⟨_, rfl⟩
    rw [hPe] at hP ⊢
    have HPE := Lib.hid hPe
    have hml2 : (c.moves.length : Int) ≤ 140737488351232 := by omega
    have hpl2 : (c.parts.length : Int) ≤ 140737488351232 := by omega
    clear x0 x1 x2 HK hbc hrc hPe HX z1 z2 z3 s12 s12a s12b s12c s123 s123a s123b s123c s124 s125 K1 K2 K3 X1 X2 X3
    go_wp2
    go_loopw [3, 4, 5] (fun s3 i _ wr => ∃ k : Nat, k ≤ c.moves.length ∧ i = .int .i64 k ∧ s3 = .string (str (P ++ (c.moves.take k).flatMap mvB)) ∧ Hid (RowAt wr w.heap.size 64 #[.string c.num, .string c.lab, .slice a1 c.moves.length cap1, .slice a2 c.parts.length cap2, .bool c.block, .bool c.mark, .int .i64 c.follow, .string c.link, .int .i64 c.loops] ∧ Below w.heap.size w wr)) (fun _ i _ _ => c.moves.length - (intOf i).toNat)
    case atStart => exact ⟨0, Nat.zero_le _, rfl, by simp, H1⟩
    case round =>
      obtain ⟨k, hk, rfl, rfl, hh⟩ := hrel
      obtain ⟨hr, hb0⟩ := hh.out
      have y2 := cell_g hr 2
      simp at y2
      by_cases hlt : k < c.moves.length
      · have hlt3 : (k : Int) < (c.moves.length : Int) := by omega
        have hk0 : (0 : Int) ≤ (k : Int) := by omega
        rcases HA.out.moves with ⟨h0, _⟩ | ⟨_, _, b, off, cap', he, hbl, hcr⟩
        · omega
        cases he
        have hc' : ∀ j, j < c.moves.length * 5 → wr.cell? ⟨b, off + j, none⟩ = genC 5 mvA c.moves j := fun j hj => (hb0.cell (p := ⟨b, off + j, none⟩) hbl).trans (hcr j hj)
        obtain ⟨d, hd⟩ : ∃ d, c.moves[k]? = some d := ⟨_, List.getElem?_eq_getElem hlt⟩
        obtain ⟨e0, e1, e2, e3, e4⟩ := mv_cells hc' k d hd
        have hfl := flat_le (f := mvB) hd
        have hI := HC.out.moves d (List.mem_of_getElem? hd)
        have CI := Lib.hid (fun W g hg => r50ints_any g (mvI d) W hg hI (by simp [mvI]) (by simp [mvI]))
        have HT := Lib.hid (take_succ_some hd)
        have HX := Lib.hid (show str (P ++ (c.moves.take k).flatMap mvB) ++ str (intsB (mvI d)) = str (P ++ (c.moves.take (k + 1)).flatMap mvB) from by rw [str_append, HT.out, List.flatMap_append, ← List.append_assoc]; simp [mvB])
        have hbb : (intsB (mvI d)).length = (mvB d).length := rfl
        have zx : ((str (P ++ (c.moves.take k).flatMap mvB)).size : Int) ≤ 1000000000 := by rw [str_size]; have := hP.out; simp only [List.length_append]; omega
        have zy : ((str (intsB (mvI d))).size : Int) ≤ 1000000000 := by rw [str_size]; have := hP.out; omega
        have HB := Lib.hid (And.intro hr hb0)
        generalize str (P ++ (c.moves.take k).flatMap mvB) = x at zx HX ⊢
        generalize str (intsB (mvI d)) = y at zy CI HX ⊢
        have hsum : ¬ 9223372036854775807 < (x.size : Int) + (y.size : Int) := by omega
        clear hc' hcr hd hfl hI hbb hr hb0 hh
        go_wp2_with fail
        refine (CI.out _ _ (RowAt.mk (by simp) rfl)).mono ?_
        rintro e w4 ⟨rfl, hb4⟩
        have hb5 : Below wr.heap.size wr w4 := by (repeat' (first | (with_reducible exact Below.refl _ _) | (with_reducible assumption) | (with_reducible refine below_run ?_ (by assumption)) | (with_reducible refine below_of_upd ?_ (by assumption) ?_) | (with_reducible refine below_drewN ?_ _) | (with_reducible refine Below.drew ?_) | (with_reducible refine below_seven ?_ ?_) | (with_reducible refine below_six ?_ ?_) | (with_reducible refine below_one ?_ ?_) | (with_reducible refine Below.alloc ?_ ?_ _) | (with_reducible refine below_after ?_ ?_ (by assumption)) | (show _ ≤ _; first | omega | (simp; done) | (simp; omega))))
        have H5 := Lib.hid (And.intro (HB.out.1.run hb5) (HB.out.2.trans (hb5.mono HB.out.2.size)))
        clear hb4 hb5
        go_wp2
        go_roundw
        case rel => exact ⟨k + 1, by omega, by go_num, by rw [HX.out], H5⟩
        case measure => simp [intOf]; omega
      · obtain rfl : k = c.moves.length := by omega
        have HK1 := Lib.hid (show c.moves.take c.moves.length = c.moves from List.take_length)
        have HB := Lib.hid (And.intro hr hb0)
        clear hr hb0 hh
        obtain ⟨P1, hP1⟩ : ∃ P1, P ++ c.moves.flatMap mvB = P1 := ⟨_, rfl⟩
        have C4 := fun W => rint_any (c.parts.length : Int) W (by omega) (by omega)
        have HX4 := Lib.hid (show str P1 ++ str (intB c.parts.length) = str (P1 ++ intB c.parts.length) from str_append _ _)
        have hPL : P1.length + (intB c.parts.length).length + (c.parts.flatMap timB).length + (intB (truthI c.block)).length + (intB (truthI c.mark)).length + (intB c.follow).length + (textB c.link).length + (intB c.loops).length ≤ 1000000000 := by
          have := HL.out
          rw [← hP1, ← HPE.out]
          simp only [List.length_append]
          omega
        have HPL := Lib.hid hPL
        have z1 : ((str P1).size : Int) ≤ 1000000000 := by rw [str_size]; omega
        have z2 : ((str (intB c.parts.length)).size : Int) ≤ 1000000000 := by rw [str_size]; omega
        have HP1 := Lib.hid hP1
        have y3 := cell_g HB.out.1 3
        simp at y3
        rw [show str (P ++ (c.moves.take c.moves.length).flatMap mvB) = str P1 from by rw [HK1.out, hP1]]
        generalize str P1 = x1 at z1 HX4 ⊢
        generalize str (intB c.parts.length) = x2 at z2 HX4 C4 ⊢
        have hsum : ¬ 9223372036854775807 < (x1.size : Int) + (x2.size : Int) := by omega
        have K4 := Lib.hid C4
        clear hP1 hPL C4
        go_wp2_with fail
        refine (K4.out _).mono ?_
        rintro e w4 ⟨rfl, hb4⟩
        have H4 := Lib.hid (And.intro (HB.out.1.run hb4) (HB.out.2.trans (hb4.mono HB.out.2.size)))
        clear hb4 y3 y2
        obtain ⟨P2, hP2⟩ : ∃ P2, P1 ++ intB c.parts.length = P2 := ⟨_, rfl⟩
        have HX5 := Lib.hid (show x1 ++ x2 = str P2 from by rw [HX4.out, hP2])
        have HP2 := Lib.hid hP2
        have hPL2 := Lib.hid (show P2.length + (c.parts.flatMap timB).length + (intB (truthI c.block)).length + (intB (truthI c.mark)).length + (intB c.follow).length + (textB c.link).length + (intB c.loops).length ≤ 1000000000 from by have := HPL.out; rw [← hP2]; simp only [List.length_append]; omega)
        clear hP2
        go_wp2
        rw [HX5.out]
        clear z1 z2 hsum HX5 HX4 K4
        go_loopw [3, 6, 7] (fun s3 i _ wr => ∃ k : Nat, k ≤ c.parts.length ∧ i = .int .i64 k ∧ s3 = .string (str (P2 ++ (c.parts.take k).flatMap timB)) ∧ Hid (RowAt wr w.heap.size 64 #[.string c.num, .string c.lab, .slice a1 c.moves.length cap1, .slice a2 c.parts.length cap2, .bool c.block, .bool c.mark, .int .i64 c.follow, .string c.link, .int .i64 c.loops] ∧ Below w.heap.size w wr)) (fun _ i _ _ => c.parts.length - (intOf i).toNat)
        case atStart => exact ⟨0, Nat.zero_le _, rfl, by simp, H4⟩
        case round =>
          obtain ⟨k, hk, rfl, rfl, hh⟩ := hrel
          obtain ⟨hr, hb0⟩ := hh.out
          have y2 := cell_g hr 3
          simp at y2
          by_cases hlt : k < c.parts.length
          · have hlt3 : (k : Int) < (c.parts.length : Int) := by omega
            have hk0 : (0 : Int) ≤ (k : Int) := by omega
            rcases HA.out.parts with ⟨h0, _⟩ | ⟨_, _, b, off, cap', he, hbl, hcr⟩
            · omega
            cases he
            have hc' : ∀ j, j < c.parts.length * 6 → wr.cell? ⟨b, off + j, none⟩ = genC 6 timA c.parts j := fun j hj => (hb0.cell (p := ⟨b, off + j, none⟩) hbl).trans (hcr j hj)
            obtain ⟨d, hd⟩ : ∃ d, c.parts[k]? = some d := ⟨_, List.getElem?_eq_getElem hlt⟩
            obtain ⟨e0, e1, e2, e3, e4, e5⟩ := tim_cells hc' k d hd
            have hfl := flat_le (f := timB) hd
            have hI := HC.out.parts d (List.mem_of_getElem? hd)
            have CI := Lib.hid (fun W g hg => r50ints_any g (timI d) W hg hI (by simp [timI]) (by simp [timI]))
            have HT := Lib.hid (take_succ_some hd)
            have HX := Lib.hid (show str (P2 ++ (c.parts.take k).flatMap timB) ++ str (intsB (timI d)) = str (P2 ++ (c.parts.take (k + 1)).flatMap timB) from by rw [str_append, HT.out, List.flatMap_append, ← List.append_assoc]; simp [timB])
            have hbb : (intsB (timI d)).length = (timB d).length := rfl
            have zx : ((str (P2 ++ (c.parts.take k).flatMap timB)).size : Int) ≤ 1000000000 := by rw [str_size]; have := hPL2.out; simp only [List.length_append]; omega
            have zy : ((str (intsB (timI d))).size : Int) ≤ 1000000000 := by rw [str_size]; have := hPL2.out; omega
            have HB2 := Lib.hid (And.intro hr hb0)
            generalize str (P2 ++ (c.parts.take k).flatMap timB) = x at zx HX ⊢
            generalize str (intsB (timI d)) = y at zy CI HX ⊢
            have hsum : ¬ 9223372036854775807 < (x.size : Int) + (y.size : Int) := by omega
            clear hc' hcr hd hfl hI hbb hr hb0 hh
            go_wp2_with fail
            refine (CI.out _ _ (RowAt.mk (by simp) rfl)).mono ?_
            rintro e w5 ⟨rfl, hb5⟩
            have hb6 : Below wr.heap.size wr w5 := by (repeat' (first | (with_reducible exact Below.refl _ _) | (with_reducible assumption) | (with_reducible refine below_run ?_ (by assumption)) | (with_reducible refine below_of_upd ?_ (by assumption) ?_) | (with_reducible refine below_drewN ?_ _) | (with_reducible refine Below.drew ?_) | (with_reducible refine below_seven ?_ ?_) | (with_reducible refine below_six ?_ ?_) | (with_reducible refine below_one ?_ ?_) | (with_reducible refine Below.alloc ?_ ?_ _) | (with_reducible refine below_after ?_ ?_ (by assumption)) | (show _ ≤ _; first | omega | (simp; done) | (simp; omega))))
            have H5 := Lib.hid (And.intro (HB2.out.1.run hb6) (HB2.out.2.trans (hb6.mono HB2.out.2.size)))
            clear hb5 hb6
            go_wp2
            go_roundw
            case rel => exact ⟨k + 1, by omega, by go_num, by rw [HX.out], H5⟩
            case measure => simp [intOf]; omega
          · obtain rfl : k = c.parts.length := by omega
            have HK2 := Lib.hid (show c.parts.take c.parts.length = c.parts from List.take_length)
            have HB2 := Lib.hid (And.intro hr hb0)
            obtain ⟨P3, hP3⟩ : ∃ P3, P2 ++ c.parts.flatMap timB = P3 := ⟨_, rfl⟩
            have hPL3 : P3.length + (intB (truthI c.block)).length + (intB (truthI c.mark)).length + (intB c.follow).length + (textB c.link).length + (intB c.loops).length ≤ 1000000000 := by have := hPL2.out; rw [← hP3]; simp only [List.length_append]; omega
            have hi3 : (intsB [truthI c.block, truthI c.mark, c.follow]).length = (intB (truthI c.block)).length + (intB (truthI c.mark)).length + (intB c.follow).length := by simp [intsB]; omega
            have HF := Lib.hid (show str P3 ++ str (intsB [truthI c.block, truthI c.mark, c.follow]) ++ str (textB c.link) ++ str (intB c.loops) = str (cueB c) from by
              rw [str_append, str_append, str_append, ← hP3, ← HP2.out, ← HP1.out, ← HPE.out]
              simp [cueB, intsB])
            have z1 : ((str P3).size : Int) ≤ 1000000000 := by rw [str_size]; omega
            have z2 : ((str (intsB [truthI c.block, truthI c.mark, c.follow])).size : Int) ≤ 1000000000 := by rw [str_size]; omega
            have z3 : ((str (textB c.link)).size : Int) ≤ 1000000000 := by rw [str_size]; omega
            have z4 : ((str (intB c.loops)).size : Int) ≤ 1000000000 := by rw [str_size]; omega
            have HI3 : Hid (Ints64 [truthI c.block, truthI c.mark, c.follow]) := Lib.hid (fun m hm => by
              simp at hm
              rcases hm with rfl | rfl | rfl
              · exact truthI_in _
              · exact truthI_in _
              · exact HC.out.follow)
            have CI : ∀ (W : World) (g : Nat), RowAt W g 3 (intA [truthI c.block, truthI c.mark, c.follow]) → Calls Tryz.prog 117 #[.slice (some ⟨g, 0, none⟩) 3 3] W fun e w' => e = .returned (.string (str (intsB [truthI c.block, truthI c.mark, c.follow]))) ∧ Below W.heap.size W w' := fun W g hg => r50ints_any g [truthI c.block, truthI c.mark, c.follow] W hg HI3.out (by simp) (by simp)
            have CT := fun W => r50text_any c.link W HC.out.link
            have CN := fun W => rint_any c.loops W HC.out.loops.1 HC.out.loops.2
            have CB := fun W => r50truth_any c.block W
            have CM := fun W => r50truth_any c.mark W
            rw [show str (P2 ++ (c.parts.take c.parts.length).flatMap timB) = str P3 from by rw [HK2.out, hP3]]
            generalize str P3 = x1 at z1 HF ⊢
            generalize str (intsB [truthI c.block, truthI c.mark, c.follow]) = x2 at z2 HF CI
            generalize str (textB c.link) = x3 at z3 HF CT
            generalize str (intB c.loops) = x4 at z4 HF CN
            have s12 : ¬ 9223372036854775807 < (x1.size : Int) + (x2.size : Int) := by omega
            have s12a : (x1.size : Int) + (x2.size : Int) ≤ 9223372036854775807 := by omega
            have s12b : x1.size + x2.size ≤ 9223372036854775807 := by omega
            have s123 : ¬ 9223372036854775807 < (x1.size : Int) + (x2.size : Int) + (x3.size : Int) := by omega
            have s123a : (x1.size : Int) + (x2.size : Int) + (x3.size : Int) ≤ 9223372036854775807 := by omega
            have s123b : x1.size + x2.size + x3.size ≤ 9223372036854775807 := by omega
            have s1234 : ¬ 9223372036854775807 < (x1.size : Int) + (x2.size : Int) + (x3.size : Int) + (x4.size : Int) := by omega
            have s1234a : (x1.size : Int) + (x2.size : Int) + (x3.size : Int) + (x4.size : Int) ≤ 9223372036854775807 := by omega
            have s1234b : x1.size + x2.size + x3.size + x4.size ≤ 9223372036854775807 := by omega
            have s12c : ¬ 9223372036854775807 < x1.size + x2.size := by omega
            have s123c : ¬ 9223372036854775807 < x1.size + x2.size + x3.size := by omega
            have s1234c : ¬ 9223372036854775807 < x1.size + x2.size + x3.size + x4.size := by omega
            have KI := Lib.hid CI
            have KT := Lib.hid CT
            have KN := Lib.hid CN
            have KB := Lib.hid CB
            have KM := Lib.hid CM
            obtain ⟨tb, htb⟩ : ∃ v, truthI c.block = v := ⟨_, rfl⟩
            obtain ⟨tm, htm⟩ : ∃ v, truthI c.mark = v := ⟨_, rfl⟩
            rw [htb, htm] at KI
            rw [htb] at KB
            rw [htm] at KM
            have HK := Lib.hid (fun (W : World) (hb5 : Below wr.heap.size wr W) => (And.intro (cell_g (hr.run hb5) 4) (And.intro (cell_g (hr.run hb5) 5) (And.intro (cell_g (hr.run hb5) 6) (And.intro (cell_g (hr.run hb5) 7) (cell_g (hr.run hb5) 8))))))
            obtain ⟨c4, c5, c6, c7, c8⟩ := HK.out wr (Below.refl _ _)
            clear hr hb0 hh hP3 hPL3 hi3 CI CT CN CB CM htb htm
            go_wp2
            go_region_held3 (fun w' => w'.cell? ⟨w.heap.size, 4, none⟩ = some (.bool c.block) ∧ w'.cell? ⟨w.heap.size, 5, none⟩ = some (.bool c.mark) ∧ w'.cell? ⟨w.heap.size, 6, none⟩ = some (.int .i64 c.follow) ∧ w'.cell? ⟨w.heap.size, 7, none⟩ = some (.string c.link) ∧ w'.cell? ⟨w.heap.size, 8, none⟩ = some (.int .i64 c.loops)) (first | exact HK.out _ (by (repeat' (first | (with_reducible exact Below.refl _ _) | (with_reducible assumption) | (with_reducible refine below_run ?_ (by assumption)) | (with_reducible refine below_of_upd ?_ (by assumption) ?_) | (with_reducible refine below_drewN ?_ _) | (with_reducible refine Below.drew ?_) | (with_reducible refine below_seven ?_ ?_) | (with_reducible refine below_six ?_ ?_) | (with_reducible refine below_one ?_ ?_) | (with_reducible refine Below.alloc ?_ ?_ _) | (with_reducible refine below_after ?_ ?_ (by assumption)) | (show _ ≤ _; first | omega | (simp; done) | (simp; omega))))) | go_keep)
              (first | (go_at_call 171; (with_reducible refine (KB.out _).mono ?_); rintro e w7 ⟨rfl, rfl⟩) | (go_at_call 171; (with_reducible refine (KM.out _).mono ?_); rintro e w8 ⟨rfl, rfl⟩) | (go_at_call 113; (with_reducible refine (KT.out _).mono ?_); rintro e w10 ⟨rfl, hb10⟩) | (go_at_call 112; (with_reducible refine (KN.out _).mono ?_); rintro e w11 ⟨rfl, hb11⟩) | (go_at_call 117; refine (KI.out _ _ (by first | exact RowAt.drew (RowAt.mk (by first | rfl | (simp; done)) rfl) | exact RowAt.mk (by first | rfl | (simp; done)) rfl)).mono ?_; rintro e w9 ⟨rfl, hb9⟩))
            all_goals (go_wp2)
            all_goals (go_ret)
            all_goals (refine ⟨ret_str (by rw [HF.out]), HB2.out.2.trans (Below.mono (?_ : Below wr.heap.size wr _) HB2.out.2.size)⟩; (repeat' (first | (with_reducible exact Below.refl _ _) | (with_reducible assumption) | (with_reducible refine below_run ?_ (by assumption)) | (with_reducible refine below_of_upd ?_ (by assumption) ?_) | (with_reducible refine below_drewN ?_ _) | (with_reducible refine Below.drew ?_) | (with_reducible refine below_seven ?_ ?_) | (with_reducible refine below_six ?_ ?_) | (with_reducible refine below_one ?_ ?_) | (with_reducible refine Below.alloc ?_ ?_ _) | (with_reducible refine below_after ?_ ?_ (by assumption)) | (show _ ≤ _; first | omega | (simp; done) | (simp; omega)))))
end Go.Proofs.YtjeigphhepngmaaGreatDoor
