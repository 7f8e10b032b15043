/- -/
import Derived.Test.YtjeigphhepngmaaGreatDoorYm
import Derived.Test.YtjeigphhepngmaaGreatDoorJb
import Derived.Test.YtjeigphhepngmaaGreatDoorProg
import Derived.Test.YtjeigphhepngmaaGreatDoorBas
import Derived.Test.YtjeigphhepngmaaGreatDoorV5
namespace Go.Proofs.YtjeigphhepngmaaGreatDoor
open Go.RowKit
open Go.Lib (hid)
set_option maxHeartbeats 8000000
set_option maxRecDepth 100000
theorem zfu {w : World} {b off : Nat} {l : List Tim} (hc : ∀ j, j < l.length * 6 → w.cell? ⟨b, off + j, none⟩ = genC 6 timA l j) (k : Nat) (d : Tim) (hd : l[k]? = some d) :
  w.cell? ⟨b, off + k * 6, none⟩ = some (.int .i64 d.up) ∧ w.cell? ⟨b, off + k * 6 + 1, none⟩ = some (.int .i64 d.down) ∧ w.cell? ⟨b, off + k * 6 + 2, none⟩ = some (.int .i64 d.pos) ∧ w.cell? ⟨b, off + k * 6 + 3, none⟩ = some (.int .i64 d.col) ∧ w.cell? ⟨b, off + k * 6 + 4, none⟩ = some (.int .i64 d.beam) ∧ w.cell? ⟨b, off + k * 6 + 5, none⟩ = some (.int .i64 d.del) := by
 obtain ⟨hk, hdk⟩ := List.getElem?_eq_some_iff.1 hd
 have g := fun i hi => za2 (S := 6) (f := timA) (by decide) hc k hk i hi
 rw [hdk] at g
 exact ⟨g 0 (by decide), g 1 (by decide), g 2 (by decide), g 3 (by decide), g 4 (by decide), g 5 (by decide)⟩
theorem zc0 (v : Int) (w : World) : Calls Tryz.prog 260 #[.int .i64 v] w fun e w' => e = .returned (.bool (timeOk v)) ∧ w = w' := by
 go_enter Tryz.func260, Tryz.ntmps260
 go_wp2
 all_goals go_ret
 all_goals exact ⟨zac (by grind [timeOk]), rfl⟩
theorem zis {l : List Tim} {k : Nat} {d : Tim} (hd : l[k]? = some d) (hf : (l.take k).all timOk = true) (hb : timOk d = true) : (l.take (k + 1)).all timOk = true := by
 rw [zaf hd, List.all_append, hf]
 simpa using hb
theorem zhb {l : List Tim} {k : Nat} {d : Tim} (hd : l[k]? = some d) (hb : timOk d = false) : l.all timOk = false := by
 rw [List.all_eq_false]
 exact ⟨d, List.mem_of_getElem? hd, by simp [hb]⟩
theorem zhi {l : List Tim} (h0 : 0 < l.length) (h4 : l.length ≤ 4) : ptsE l = if l.all timOk then 0 else 2 := by rw [ptsE, if_neg (by omega), if_neg (by omega)]
theorem zxv (v : Value) (l : List Tim) (w : World) (hv : ListAt 6 timA w v l) :
   Calls Tryz.prog 169 #[v] w fun e w' => e = .returned (.int .i64 (ptsE l)) ∧ Below w.heap.size w w' := by
 rcases hv with ⟨h0, a, cap, rfl⟩ | ⟨h0, h1, b, off, cap, rfl, hlt, hc⟩
 · have hl : l = [] := List.eq_nil_of_length_eq_zero h0
   subst hl
   go_enter Tryz.func169, Tryz.ntmps169
   go_wp2
   go_ret
   exact ⟨rfl, bel⟩
 have q0 : ((l.length : Int) == 0) = false := by rw [beq_eq_false_iff_ne]; omega
 by_cases h2 : l.length ≤ 4
 · have h3 : ¬ (4 : Int) < (l.length : Int) := by omega
   have h5 : (l.length : Int) ≤ 4 := by omega
   have HL := hid (zhi h0 h2)
   go_enter Tryz.func169, Tryz.ntmps169
   go_wp2
   go_loopw [3, 4] (fun i _ wr => ∃ k : Nat, k ≤ l.length ∧ i = .int .i64 k ∧ Hid ((l.take k).all timOk = true) ∧ Below w.heap.size w wr) (fun i _ _ => l.length - (intOf i).toNat)
   case atStart => exact ⟨0, Nat.zero_le _, rfl, by simp [Hid], Below.refl _ _⟩
   case round =>
    obtain ⟨k, hk, rfl, hf, hb0⟩ := hrel
    by_cases hlt2 : k < l.length
    · have hlt3 : (k : Int) < (l.length : Int) := by omega
      have hc' : ∀ j, j < l.length * 6 → wr.cell? ⟨b, off + j, none⟩ = genC 6 timA l j := fun j hj => (hb0.cell (p := ⟨b, off + j, none⟩) hlt).trans (hc j hj)
      obtain ⟨d, hd⟩ : ∃ d, l[k]? = some d := ⟨_, List.getElem?_eq_getElem hlt2⟩
      obtain ⟨e0, e1, e2, e3, e4, e5⟩ := zfu hc' k d hd
      have HD := hid hd
      obtain ⟨q1, hq1⟩ : ∃ q, timeOk d.up = q := ⟨_, rfl⟩
      obtain ⟨q2, hq2⟩ : ∃ q, timeOk d.down = q := ⟨_, rfl⟩
      obtain ⟨q3, hq3⟩ : ∃ q, timeOk d.pos = q := ⟨_, rfl⟩
      obtain ⟨q4, hq4⟩ : ∃ q, timeOk d.col = q := ⟨_, rfl⟩
      obtain ⟨q5, hq5⟩ : ∃ q, timeOk d.beam = q := ⟨_, rfl⟩
      obtain ⟨q6, hq6⟩ : ∃ q, timeOk d.del = q := ⟨_, rfl⟩
      have C1 := fun W => zc0 d.up W
      have C2 := fun W => zc0 d.down W
      have C3 := fun W => zc0 d.pos W
      have C4 := fun W => zc0 d.col W
      have C5 := fun W => zc0 d.beam W
      have C6 := fun W => zc0 d.del W
      rw [hq1] at C1
      rw [hq2] at C2
      rw [hq3] at C3
      rw [hq4] at C4
      rw [hq5] at C5
      rw [hq6] at C6
      have HT := hid (show timOk d = (q1 && (q2 && (q3 && (q4 && (q5 && q6))))) from by rw [timOk, hq1, hq2, hq3, hq4, hq5, hq6])
      have K1 := hid C1
      have K2 := hid C2
      have K3 := hid C3
      have K4 := hid C4
      have K5 := hid C5
      have K6 := hid C6
      clear hd hc' hq1 hq2 hq3 hq4 hq5 hq6 C1 C2 C3 C4 C5 C6
      have hk0 : (0 : Int) ≤ (k : Int) := by omega
      have fin : Hid (∀ W, Below wr.heap.size wr W → timOk d = true → (∃ k', k' ≤ l.length ∧ Value.int .i64 ((k : Int) + 1) = .int .i64 (k' : Int) ∧ Hid ((l.take k').all timOk = true) ∧ Below w.heap.size w W)) := hid (fun W hb e => ⟨k + 1, by omega, by go_num, hid (zis HD.out hf.out e), hb0.trans (hb.mono hb0.size)⟩)
      have stop : Hid (∀ W, Below wr.heap.size wr W → timOk d = false → (Ending.returned (.int .i64 2) = .returned (.int .i64 (ptsE l)) ∧ Below w.heap.size w W)) := hid (fun W hb e => ⟨zab (by rw [HL.out, zhb HD.out e]; rfl), hb0.trans (hb.mono hb0.size)⟩)
      cases q1 with
      | false =>
        go_wp2_with fail
        refine (K1.out _).mono ?_
        rintro e w1 ⟨rfl, rfl⟩
        go_wp2
        go_ret
        exact stop.out _ bel (by rw [HT.out]; rfl)
      | true =>
        cases q2 with
        | false =>
          go_wp2_with fail
          refine (K1.out _).mono ?_
          rintro e w1 ⟨rfl, rfl⟩
          go_wp2_with fail
          refine (K2.out _).mono ?_
          rintro e w2 ⟨rfl, rfl⟩
          go_wp2
          go_ret
          exact stop.out _ bel (by rw [HT.out]; rfl)
        | true =>
          cases q3 with
          | false =>
            go_wp2_with fail
            refine (K1.out _).mono ?_
            rintro e w1 ⟨rfl, rfl⟩
            go_wp2_with fail
            refine (K2.out _).mono ?_
            rintro e w2 ⟨rfl, rfl⟩
            go_wp2_with fail
            refine (K3.out _).mono ?_
            rintro e w3 ⟨rfl, rfl⟩
            go_wp2
            go_ret
            exact stop.out _ bel (by rw [HT.out]; rfl)
          | true =>
            cases q4 with
            | false =>
              go_wp2_with fail
              refine (K1.out _).mono ?_
              rintro e w1 ⟨rfl, rfl⟩
              go_wp2_with fail
              refine (K2.out _).mono ?_
              rintro e w2 ⟨rfl, rfl⟩
              go_wp2_with fail
              refine (K3.out _).mono ?_
              rintro e w3 ⟨rfl, rfl⟩
              go_wp2_with fail
              refine (K4.out _).mono ?_
              rintro e w4 ⟨rfl, rfl⟩
              go_wp2
              go_ret
              exact stop.out _ bel (by rw [HT.out]; rfl)
            | true =>
              cases q5 with
              | false =>
                go_wp2_with fail
                refine (K1.out _).mono ?_
                rintro e w1 ⟨rfl, rfl⟩
                go_wp2_with fail
                refine (K2.out _).mono ?_
                rintro e w2 ⟨rfl, rfl⟩
                go_wp2_with fail
                refine (K3.out _).mono ?_
                rintro e w3 ⟨rfl, rfl⟩
                go_wp2_with fail
                refine (K4.out _).mono ?_
                rintro e w4 ⟨rfl, rfl⟩
                go_wp2_with fail
                refine (K5.out _).mono ?_
                rintro e w5 ⟨rfl, rfl⟩
                go_wp2
                go_ret
                exact stop.out _ bel (by rw [HT.out]; rfl)
              | true =>
                cases q6 with
                | false =>
                  go_wp2_with fail
                  refine (K1.out _).mono ?_
                  rintro e w1 ⟨rfl, rfl⟩
                  go_wp2_with fail
                  refine (K2.out _).mono ?_
                  rintro e w2 ⟨rfl, rfl⟩
                  go_wp2_with fail
                  refine (K3.out _).mono ?_
                  rintro e w3 ⟨rfl, rfl⟩
                  go_wp2_with fail
                  refine (K4.out _).mono ?_
                  rintro e w4 ⟨rfl, rfl⟩
                  go_wp2_with fail
                  refine (K5.out _).mono ?_
                  rintro e w5 ⟨rfl, rfl⟩
                  go_wp2_with fail
                  refine (K6.out _).mono ?_
                  rintro e w6 ⟨rfl, rfl⟩
                  go_wp2
                  go_ret
                  exact stop.out _ bel (by rw [HT.out]; rfl)
                | true =>
                  go_wp2_with fail
                  refine (K1.out _).mono ?_
                  rintro e w1 ⟨rfl, rfl⟩
                  go_wp2_with fail
                  refine (K2.out _).mono ?_
                  rintro e w2 ⟨rfl, rfl⟩
                  go_wp2_with fail
                  refine (K3.out _).mono ?_
                  rintro e w3 ⟨rfl, rfl⟩
                  go_wp2_with fail
                  refine (K4.out _).mono ?_
                  rintro e w4 ⟨rfl, rfl⟩
                  go_wp2_with fail
                  refine (K5.out _).mono ?_
                  rintro e w5 ⟨rfl, rfl⟩
                  go_wp2_with fail
                  refine (K6.out _).mono ?_
                  rintro e w6 ⟨rfl, rfl⟩
                  go_wp2
                  go_roundw
                  case rel => exact fin.out _ bel (by rw [HT.out]; rfl)
                  case measure => simp [intOf]; omega
    obtain rfl : k = l.length := by omega
    go_wp2
    go_ret
    have := hf.out
    rw [List.take_length] at this
    exact ⟨zab (by rw [HL.out, this]; rfl), hb0⟩
 have h3 : (4 : Int) < (l.length : Int) := by omega
 go_enter Tryz.func169, Tryz.ntmps169
 go_wp2
 go_ret
 exact ⟨zab (by rw [ptsE, if_neg (by omega), if_pos (by omega)]), bel⟩
theorem zbq {w : World} {b T : Nat} {cs : Array Value} (h : RowAt w b T cs) (o : Nat) : w.cell? ⟨b, o, none⟩ = cs[o]? := (zaa h).1 o
theorem zba (l : List UInt8) : ((str l).size : Int) = (l.length : Int) := by rw [zar]
theorem ztp (c : CueD) (v1 v2 : Value) (w : World) (h : CueAt w v1 v2 c) (hc : Cue64 c) (hlen : (cueB c).length ≤ 1000000000) :
  Calls Tryz.prog 73 #[.agg #[.string c.num, .string c.lab, v1, v2, .bool c.block, .bool c.mark, .int .i64 c.follow, .string c.link, .int .i64 c.loops]] w fun e w' => e = .returned (.string (str (cueB c))) ∧ Below w.heap.size w w' := by
 have hsh1 : ∃ a cap, v1 = .slice a c.moves.length cap ∧ c.moves.length ≤ 140737488351232 := by
  rcases h.moves with ⟨h0, a, cap, rfl⟩ | ⟨_, h1, g, off, cap, rfl, _⟩
  · exact ⟨a, cap, by rw [h0], by omega⟩
  exact ⟨_, _, rfl, h1⟩
 have hsh2 : ∃ a cap, v2 = .slice a c.parts.length cap ∧ c.parts.length ≤ 140737488351232 := by
  rcases h.parts with ⟨h0, a, cap, rfl⟩ | ⟨_, h1, g, off, cap, rfl, _⟩
  · exact ⟨a, cap, by rw [h0], by omega⟩
  exact ⟨_, _, rfl, h1⟩
 obtain ⟨a1, cap1, rfl, hml⟩ := hsh1
 obtain ⟨a2, cap2, rfl, hpl⟩ := hsh2
 have HL := hid (show (textB c.num).length + (textB c.lab).length + (intB c.moves.length).length + (c.moves.flatMap mvB).length + (intB c.parts.length).length + (c.parts.flatMap timB).length + (intB (truthI c.block)).length + (intB (truthI c.mark)).length + (intB c.follow).length + (textB c.link).length + (intB c.loops).length ≤ 1000000000 from by
  simp only [cueB, List.length_append] at hlen
  omega)
 obtain ⟨X1, hX1⟩ : ∃ x, str (textB c.num) = x := ⟨_, rfl⟩
 obtain ⟨X2, hX2⟩ : ∃ x, str (textB c.lab) = x := ⟨_, rfl⟩
 obtain ⟨X3, hX3⟩ : ∃ x, str (intB c.moves.length) = x := ⟨_, rfl⟩
 have z1 : (X1.size : Int) ≤ 1000000000 := by rw [← hX1, zba]; have := HL.out; omega
 have z2 : (X2.size : Int) ≤ 1000000000 := by rw [← hX2, zba]; have := HL.out; omega
 have z3 : (X3.size : Int) ≤ 1000000000 := by rw [← hX3, zba]; have := HL.out; omega
 have C1 := fun W => zcd c.num W hc.num
 have C2 := fun W => zcd c.lab W hc.lab
 have C3 := fun W => zb4 (c.moves.length : Int) W (by omega) (by omega)
 rw [hX1] at C1
 rw [hX2] at C2
 rw [hX3] at C3
 have K1 := hid C1
 have K2 := hid C2
 have K3 := hid C3
 have HX := hid (show X1 ++ X2 ++ X3 = str (textB c.num ++ textB c.lab ++ intB c.moves.length) from by rw [← hX1, ← hX2, ← hX3, zas, zas])
 have s12 : ¬ 9223372036854775807 < (X1.size : Int) + (X2.size : Int) := by omega
 have s12a : (X1.size : Int) + (X2.size : Int) ≤ 9223372036854775807 := by omega
 have s12b : X1.size + X2.size ≤ 9223372036854775807 := by omega
 have s12c : ¬ 9223372036854775807 < X1.size + X2.size := by omega
 have s123 : ¬ 9223372036854775807 < (X1.size : Int) + (X2.size : Int) + (X3.size : Int) := by omega
 have s123a : (X1.size : Int) + (X2.size : Int) + (X3.size : Int) ≤ 9223372036854775807 := by omega
 have s123b : X1.size + X2.size + X3.size ≤ 9223372036854775807 := by omega
 have s123c : ¬ 9223372036854775807 < X1.size + X2.size + X3.size := by omega
 have s124 : ((X1 ++ X2).size : Int) = (X1.size : Int) + (X2.size : Int) := by simp [ByteArray.size_append]
 have s125 : ¬ 9223372036854775807 < ((X1 ++ X2).size : Int) + (X3.size : Int) := by omega
 have HC := hid hc
 have HA := hid h
 obtain ⟨n, hn⟩ : ∃ n, c.moves.length = n := ⟨_, rfl⟩
 clear hX1 hX2 hX3 C1 C2 C3 hlen h hc
 have hrow : RowAt (w.alloc (.cells #[.string c.num, .string c.lab, .slice a1 c.moves.length cap1, .slice a2 c.parts.length cap2, .bool c.block, .bool c.mark, .int .i64 c.follow, .string c.link, .int .i64 c.loops] 64)) w.heap.size 64 #[.string c.num, .string c.lab, .slice a1 c.moves.length cap1, .slice a2 c.parts.length cap2, .bool c.block, .bool c.mark, .int .i64 c.follow, .string c.link, .int .i64 c.loops] := RowAt.new _ _ _
 have hbZ : Below w.heap.size w (w.alloc (.cells #[.string c.num, .string c.lab, .slice a1 c.moves.length cap1, .slice a2 c.parts.length cap2, .bool c.block, .bool c.mark, .int .i64 c.follow, .string c.link, .int .i64 c.loops] 64)) := bel
 have HR := hid (And.intro hrow hbZ)
 clear hrow hbZ hn n
 go_enter Tryz.func73, Tryz.ntmps73
 go_wp2_with fail
 obtain ⟨Z, hZ⟩ : ∃ Z, w.alloc (.cells #[.string c.num, .string c.lab, .slice a1 c.moves.length cap1, .slice a2 c.parts.length cap2, .bool c.block, .bool c.mark, .int .i64 c.follow, .string c.link, .int .i64 c.loops] 64) = Z := ⟨_, rfl⟩
 rw [hZ] at HR ⊢
 clear hZ
 have HK := hid (fun (W : World) (hb5 : Below Z.heap.size Z W) => (And.intro (zbq (HR.out.1.run hb5) 0) (And.intro (zbq (HR.out.1.run hb5) 1) (zbq (HR.out.1.run hb5) 2))))
 obtain ⟨x0, x1, x2⟩ := HK.out Z (Below.refl _ _)
 go_cut [3] (fun s3 wx => s3 = .string (X1 ++ X2 ++ X3) ∧ Below Z.heap.size Z wx)
 case first =>
  go_region_held3 (fun w' => w'.cell? ⟨w.heap.size, 0, none⟩ = some (.string c.num) ∧ w'.cell? ⟨w.heap.size, 1, none⟩ = some (.string c.lab) ∧ w'.cell? ⟨w.heap.size, 2, none⟩ = some (.slice a1 c.moves.length cap1)) (first | exact HK.out _ bel | go_keep)
   (first | (go_at_call 113; (with_reducible refine (K1.out _).mono ?_); rintro e w4 ⟨rfl, hb4⟩) | (go_at_call 113; (with_reducible refine (K2.out _).mono ?_); rintro e w5 ⟨rfl, hb5⟩) | (go_at_call 112; (with_reducible refine (K3.out _).mono ?_); rintro e w6 ⟨rfl, hb6⟩))
  all_goals (go_wp2_with fail; go_meet)
  all_goals exact ⟨rfl, bel⟩
 case rest =>
  obtain ⟨rfl, hbc⟩ := hcut
  rw [HX.out]
  have hrc := HR.out.1.run hbc
  have H1 := hid (And.intro hrc (HR.out.2.trans (hbc.mono HR.out.2.size)))
  have hP := hid (show (textB c.num ++ textB c.lab ++ intB c.moves.length).length + (c.moves.flatMap mvB).length ≤ 1000000000 from by have := HL.out; simp only [List.length_append]; omega)
  obtain ⟨P, hPe⟩ : ∃ P, textB c.num ++ textB c.lab ++ intB c.moves.length = P := ⟨_, rfl⟩
  rw [hPe] at hP ⊢
  have HPE := hid hPe
  have hml2 : (c.moves.length : Int) ≤ 140737488351232 := by omega
  have hpl2 : (c.parts.length : Int) ≤ 140737488351232 := by omega
  clear x0 x1 x2 HK hbc hrc hPe HX z1 z2 z3 s12 s12a s12b s12c s123 s123a s123b s123c s124 s125 K1 K2 K3 X1 X2 X3
  go_wp2
  go_loopw [3, 4, 5] (fun s3 i _ wr => ∃ k : Nat, k ≤ c.moves.length ∧ i = .int .i64 k ∧ s3 = .string (str (P ++ (c.moves.take k).flatMap mvB)) ∧ Hid (RowAt wr w.heap.size 64 #[.string c.num, .string c.lab, .slice a1 c.moves.length cap1, .slice a2 c.parts.length cap2, .bool c.block, .bool c.mark, .int .i64 c.follow, .string c.link, .int .i64 c.loops] ∧ Below w.heap.size w wr)) (fun _ i _ _ => c.moves.length - (intOf i).toNat)
  case atStart => exact ⟨0, Nat.zero_le _, rfl, by simp, H1⟩
  case round =>
   obtain ⟨k, hk, rfl, rfl, hh⟩ := hrel
   obtain ⟨hr, hb0⟩ := hh.out
   have y2 := zbq hr 2
   simp at y2
   by_cases hlt : k < c.moves.length
   · have hlt3 : (k : Int) < (c.moves.length : Int) := by omega
     have hk0 : (0 : Int) ≤ (k : Int) := by omega
     rcases HA.out.moves with ⟨h0, _⟩ | ⟨_, _, b, off, cap', he, hbl, hcr⟩
     · omega
     cases he
     have hc' : ∀ j, j < c.moves.length * 5 → wr.cell? ⟨b, off + j, none⟩ = genC 5 mvA c.moves j := fun j hj => (hb0.cell (p := ⟨b, off + j, none⟩) hbl).trans (hcr j hj)
     obtain ⟨d, hd⟩ : ∃ d, c.moves[k]? = some d := ⟨_, List.getElem?_eq_getElem hlt⟩
     obtain ⟨e0, e1, e2, e3, e4⟩ := zch hc' k d hd
     have hfl := zaq (f := mvB) hd
     have hI := HC.out.moves d (List.mem_of_getElem? hd)
     have CI := hid (fun W g hg => zck g (mvI d) W hg hI (by simp [mvI]) (by simp [mvI]))
     have HT := hid (zaf hd)
     have HX := hid (show str (P ++ (c.moves.take k).flatMap mvB) ++ str (intsB (mvI d)) = str (P ++ (c.moves.take (k + 1)).flatMap mvB) from by rw [zas, HT.out, List.flatMap_append, ← List.append_assoc]; simp [mvB])
     have hbb : (intsB (mvI d)).length = (mvB d).length := rfl
     have zx : ((str (P ++ (c.moves.take k).flatMap mvB)).size : Int) ≤ 1000000000 := by rw [zba]; have := hP.out; simp only [List.length_append]; omega
     have zy : ((str (intsB (mvI d))).size : Int) ≤ 1000000000 := by rw [zba]; have := hP.out; omega
     have HB := hid (And.intro hr hb0)
     generalize str (P ++ (c.moves.take k).flatMap mvB) = x at zx HX ⊢
     generalize str (intsB (mvI d)) = y at zy CI HX ⊢
     have hsum : ¬ 9223372036854775807 < (x.size : Int) + (y.size : Int) := by omega
     clear hc' hcr hd hfl hI hbb hr hb0 hh
     go_wp2_with fail
     refine (CI.out _ _ (RowAt.mk (by simp) rfl)).mono ?_
     rintro e w4 ⟨rfl, hb4⟩
     have hb5 : Below wr.heap.size wr w4 := bel
     have H5 := hid (And.intro (HB.out.1.run hb5) (HB.out.2.trans (hb5.mono HB.out.2.size)))
     clear hb4 hb5
     go_wp2
     go_roundw
     case rel => exact ⟨k + 1, by omega, by go_num, by rw [HX.out], H5⟩
     case measure => simp [intOf]; omega
   obtain rfl : k = c.moves.length := by omega
   have HK1 := hid (show c.moves.take c.moves.length = c.moves from List.take_length)
   have HB := hid (And.intro hr hb0)
   clear hr hb0 hh
   obtain ⟨P1, hP1⟩ : ∃ P1, P ++ c.moves.flatMap mvB = P1 := ⟨_, rfl⟩
   have C4 := fun W => zb4 (c.parts.length : Int) W (by omega) (by omega)
   have HX4 := hid (show str P1 ++ str (intB c.parts.length) = str (P1 ++ intB c.parts.length) from zas _ _)
   have hPL : P1.length + (intB c.parts.length).length + (c.parts.flatMap timB).length + (intB (truthI c.block)).length + (intB (truthI c.mark)).length + (intB c.follow).length + (textB c.link).length + (intB c.loops).length ≤ 1000000000 := by
     have := HL.out
     rw [← hP1, ← HPE.out]
     simp only [List.length_append]
     omega
   have HPL := hid hPL
   have z1 : ((str P1).size : Int) ≤ 1000000000 := by rw [zba]; omega
   have z2 : ((str (intB c.parts.length)).size : Int) ≤ 1000000000 := by rw [zba]; omega
   have HP1 := hid hP1
   have y3 := zbq HB.out.1 3
   simp at y3
   rw [show str (P ++ (c.moves.take c.moves.length).flatMap mvB) = str P1 from by rw [HK1.out, hP1]]
   generalize str P1 = x1 at z1 HX4 ⊢
   generalize str (intB c.parts.length) = x2 at z2 HX4 C4 ⊢
   have hsum : ¬ 9223372036854775807 < (x1.size : Int) + (x2.size : Int) := by omega
   have K4 := hid C4
   clear hP1 hPL C4
   go_wp2_with fail
   refine (K4.out _).mono ?_
   rintro e w4 ⟨rfl, hb4⟩
   have H4 := hid (And.intro (HB.out.1.run hb4) (HB.out.2.trans (hb4.mono HB.out.2.size)))
   clear hb4 y3 y2
   obtain ⟨P2, hP2⟩ : ∃ P2, P1 ++ intB c.parts.length = P2 := ⟨_, rfl⟩
   have HX5 := hid (show x1 ++ x2 = str P2 from by rw [HX4.out, hP2])
   have HP2 := hid hP2
   have hPL2 := hid (show P2.length + (c.parts.flatMap timB).length + (intB (truthI c.block)).length + (intB (truthI c.mark)).length + (intB c.follow).length + (textB c.link).length + (intB c.loops).length ≤ 1000000000 from by have := HPL.out; rw [← hP2]; simp only [List.length_append]; omega)
   clear hP2
   go_wp2
   rw [HX5.out]
   clear z1 z2 hsum HX5 HX4 K4
   go_loopw [3, 6, 7] (fun s3 i _ wr => ∃ k : Nat, k ≤ c.parts.length ∧ i = .int .i64 k ∧ s3 = .string (str (P2 ++ (c.parts.take k).flatMap timB)) ∧ Hid (RowAt wr w.heap.size 64 #[.string c.num, .string c.lab, .slice a1 c.moves.length cap1, .slice a2 c.parts.length cap2, .bool c.block, .bool c.mark, .int .i64 c.follow, .string c.link, .int .i64 c.loops] ∧ Below w.heap.size w wr)) (fun _ i _ _ => c.parts.length - (intOf i).toNat)
   case atStart => exact ⟨0, Nat.zero_le _, rfl, by simp, H4⟩
   case round =>
     obtain ⟨k, hk, rfl, rfl, hh⟩ := hrel
     obtain ⟨hr, hb0⟩ := hh.out
     have y2 := zbq hr 3
     simp at y2
     by_cases hlt : k < c.parts.length
     · have hlt3 : (k : Int) < (c.parts.length : Int) := by omega
       have hk0 : (0 : Int) ≤ (k : Int) := by omega
       rcases HA.out.parts with ⟨h0, _⟩ | ⟨_, _, b, off, cap', he, hbl, hcr⟩
       · omega
       cases he
       have hc' : ∀ j, j < c.parts.length * 6 → wr.cell? ⟨b, off + j, none⟩ = genC 6 timA c.parts j := fun j hj => (hb0.cell (p := ⟨b, off + j, none⟩) hbl).trans (hcr j hj)
       obtain ⟨d, hd⟩ : ∃ d, c.parts[k]? = some d := ⟨_, List.getElem?_eq_getElem hlt⟩
       obtain ⟨e0, e1, e2, e3, e4, e5⟩ := zfu hc' k d hd
       have hfl := zaq (f := timB) hd
       have hI := HC.out.parts d (List.mem_of_getElem? hd)
       have CI := hid (fun W g hg => zck g (timI d) W hg hI (by simp [timI]) (by simp [timI]))
       have HT := hid (zaf hd)
       have HX := hid (show str (P2 ++ (c.parts.take k).flatMap timB) ++ str (intsB (timI d)) = str (P2 ++ (c.parts.take (k + 1)).flatMap timB) from by rw [zas, HT.out, List.flatMap_append, ← List.append_assoc]; simp [timB])
       have hbb : (intsB (timI d)).length = (timB d).length := rfl
       have zx : ((str (P2 ++ (c.parts.take k).flatMap timB)).size : Int) ≤ 1000000000 := by rw [zba]; have := hPL2.out; simp only [List.length_append]; omega
       have zy : ((str (intsB (timI d))).size : Int) ≤ 1000000000 := by rw [zba]; have := hPL2.out; omega
       have HB2 := hid (And.intro hr hb0)
       generalize str (P2 ++ (c.parts.take k).flatMap timB) = x at zx HX ⊢
       generalize str (intsB (timI d)) = y at zy CI HX ⊢
       have hsum : ¬ 9223372036854775807 < (x.size : Int) + (y.size : Int) := by omega
       clear hc' hcr hd hfl hI hbb hr hb0 hh
       go_wp2_with fail
       refine (CI.out _ _ (RowAt.mk (by simp) rfl)).mono ?_
       rintro e w5 ⟨rfl, hb5⟩
       have hb6 : Below wr.heap.size wr w5 := bel
       have H5 := hid (And.intro (HB2.out.1.run hb6) (HB2.out.2.trans (hb6.mono HB2.out.2.size)))
       clear hb5 hb6
       go_wp2
       go_roundw
       case rel => exact ⟨k + 1, by omega, by go_num, by rw [HX.out], H5⟩
       case measure => simp [intOf]; omega
     obtain rfl : k = c.parts.length := by omega
     have HK2 := hid (show c.parts.take c.parts.length = c.parts from List.take_length)
     have HB2 := hid (And.intro hr hb0)
     obtain ⟨P3, hP3⟩ : ∃ P3, P2 ++ c.parts.flatMap timB = P3 := ⟨_, rfl⟩
     have hPL3 : P3.length + (intB (truthI c.block)).length + (intB (truthI c.mark)).length + (intB c.follow).length + (textB c.link).length + (intB c.loops).length ≤ 1000000000 := by have := hPL2.out; rw [← hP3]; simp only [List.length_append]; omega
     have hi3 : (intsB [truthI c.block, truthI c.mark, c.follow]).length = (intB (truthI c.block)).length + (intB (truthI c.mark)).length + (intB c.follow).length := by simp [intsB]; omega
     have HF := hid (show str P3 ++ str (intsB [truthI c.block, truthI c.mark, c.follow]) ++ str (textB c.link) ++ str (intB c.loops) = str (cueB c) from by
       rw [zas, zas, zas, ← hP3, ← HP2.out, ← HP1.out, ← HPE.out]
       simp [cueB, intsB])
     have z1 : ((str P3).size : Int) ≤ 1000000000 := by rw [zba]; omega
     have z2 : ((str (intsB [truthI c.block, truthI c.mark, c.follow])).size : Int) ≤ 1000000000 := by rw [zba]; omega
     have z3 : ((str (textB c.link)).size : Int) ≤ 1000000000 := by rw [zba]; omega
     have z4 : ((str (intB c.loops)).size : Int) ≤ 1000000000 := by rw [zba]; omega
     have HI3 : Hid (Ints64 [truthI c.block, truthI c.mark, c.follow]) := hid (fun m hm => by
       simp at hm
       rcases hm with rfl | rfl | rfl
       · exact zey _
       · exact zey _
       exact HC.out.follow)
     have CI : ∀ (W : World) (g : Nat), RowAt W g 3 (intA [truthI c.block, truthI c.mark, c.follow]) → Calls Tryz.prog 117 #[.slice (some ⟨g, 0, none⟩) 3 3] W fun e w' => e = .returned (.string (str (intsB [truthI c.block, truthI c.mark, c.follow]))) ∧ Below W.heap.size W w' := fun W g hg => zck g [truthI c.block, truthI c.mark, c.follow] W hg HI3.out (by simp) (by simp)
     have CT := fun W => zcd c.link W HC.out.link
     have CN := fun W => zb4 c.loops W HC.out.loops.1 HC.out.loops.2
     have CB := fun W => zdr c.block W
     have CM := fun W => zdr c.mark W
     rw [show str (P2 ++ (c.parts.take c.parts.length).flatMap timB) = str P3 from by rw [HK2.out, hP3]]
     generalize str P3 = x1 at z1 HF ⊢
     generalize str (intsB [truthI c.block, truthI c.mark, c.follow]) = x2 at z2 HF CI
     generalize str (textB c.link) = x3 at z3 HF CT
     generalize str (intB c.loops) = x4 at z4 HF CN
     have s12 : ¬ 9223372036854775807 < (x1.size : Int) + (x2.size : Int) := by omega
     have s12a : (x1.size : Int) + (x2.size : Int) ≤ 9223372036854775807 := by omega
     have s12b : x1.size + x2.size ≤ 9223372036854775807 := by omega
     have s123 : ¬ 9223372036854775807 < (x1.size : Int) + (x2.size : Int) + (x3.size : Int) := by omega
     have s123a : (x1.size : Int) + (x2.size : Int) + (x3.size : Int) ≤ 9223372036854775807 := by omega
     have s123b : x1.size + x2.size + x3.size ≤ 9223372036854775807 := by omega
     have s1234 : ¬ 9223372036854775807 < (x1.size : Int) + (x2.size : Int) + (x3.size : Int) + (x4.size : Int) := by omega
     have s1234a : (x1.size : Int) + (x2.size : Int) + (x3.size : Int) + (x4.size : Int) ≤ 9223372036854775807 := by omega
     have s1234b : x1.size + x2.size + x3.size + x4.size ≤ 9223372036854775807 := by omega
     have s12c : ¬ 9223372036854775807 < x1.size + x2.size := by omega
     have s123c : ¬ 9223372036854775807 < x1.size + x2.size + x3.size := by omega
     have s1234c : ¬ 9223372036854775807 < x1.size + x2.size + x3.size + x4.size := by omega
     have KI := hid CI
     have KT := hid CT
     have KN := hid CN
     have KB := hid CB
     have KM := hid CM
     obtain ⟨tb, htb⟩ : ∃ v, truthI c.block = v := ⟨_, rfl⟩
     obtain ⟨tm, htm⟩ : ∃ v, truthI c.mark = v := ⟨_, rfl⟩
     rw [htb, htm] at KI
     rw [htb] at KB
     rw [htm] at KM
     have HK := hid (fun (W : World) (hb5 : Below wr.heap.size wr W) => (And.intro (zbq (hr.run hb5) 4) (And.intro (zbq (hr.run hb5) 5) (And.intro (zbq (hr.run hb5) 6) (And.intro (zbq (hr.run hb5) 7) (zbq (hr.run hb5) 8))))))
     obtain ⟨c4, c5, c6, c7, c8⟩ := HK.out wr (Below.refl _ _)
     clear hr hb0 hh hP3 hPL3 hi3 CI CT CN CB CM htb htm
     go_wp2
     go_region_held3 (fun w' => w'.cell? ⟨w.heap.size, 4, none⟩ = some (.bool c.block) ∧ w'.cell? ⟨w.heap.size, 5, none⟩ = some (.bool c.mark) ∧ w'.cell? ⟨w.heap.size, 6, none⟩ = some (.int .i64 c.follow) ∧ w'.cell? ⟨w.heap.size, 7, none⟩ = some (.string c.link) ∧ w'.cell? ⟨w.heap.size, 8, none⟩ = some (.int .i64 c.loops)) (first | exact HK.out _ bel | go_keep)
       (first | (go_at_call 171; (with_reducible refine (KB.out _).mono ?_); rintro e w7 ⟨rfl, rfl⟩) | (go_at_call 171; (with_reducible refine (KM.out _).mono ?_); rintro e w8 ⟨rfl, rfl⟩) | (go_at_call 113; (with_reducible refine (KT.out _).mono ?_); rintro e w10 ⟨rfl, hb10⟩) | (go_at_call 112; (with_reducible refine (KN.out _).mono ?_); rintro e w11 ⟨rfl, hb11⟩) | (go_at_call 117; refine (KI.out _ _ (by first | exact RowAt.drew (RowAt.mk (by first | rfl | (simp; done)) rfl) | exact RowAt.mk (by first | rfl | (simp; done)) rfl)).mono ?_; rintro e w9 ⟨rfl, hb9⟩))
     all_goals (go_wp2)
     all_goals (go_ret)
     all_goals (refine ⟨zbl (by rw [HF.out]), HB2.out.2.trans (Below.mono (?_ : Below wr.heap.size wr _) HB2.out.2.size)⟩; exact bel)
def badR (r : Int) : Bool := decide (r < 48 ∨ 57 < r)
theorem zho (r : Int) (w : World) :
  Calls Tryz.prog 289 #[.int .i32 r] w fun e w' => e = .returned (.bool (badR r)) ∧ w = w' := by
 go_enter Tryz.func289, Tryz.ntmps289
 go_wp2
 all_goals go_ret
 all_goals exact ⟨zac (by grind [badR]), rfl⟩
def digTo (s : ByteArray) (k : Nat) : Bool := (s.data.toList.take k).all isDig
theorem zk9 (s : ByteArray) (k : Nat) (h : k < s.size) (hf : digTo s k = true) (hb : isDig s[k] = true) : digTo s (k + 1) = true := by
 unfold digTo at *
 rw [zc2 s k h, List.all_append, hf]
 simpa using hb
theorem ze5 (s : ByteArray) (k : Nat) (h : k < s.size) (hb : isDig s[k] = false) : s.data.toList.all isDig = false := by
 rw [List.all_eq_false]
 exact ⟨s[k], List.getElem_mem (l := s.data.toList) (by simpa using h), by simp [hb]⟩
theorem zhy (s : ByteArray) (k : Nat) (h : s.size ≤ k) (hf : digTo s k = true) : s.data.toList.all isDig = true := by
 unfold digTo at hf
 rwa [List.take_of_length_le (by simpa using h)] at hf
theorem zuw (s : ByteArray) (w : World) :
  Calls Tryz.prog 359 #[.string s, .func (.func 289) #[] #[], .bool true] w
    fun e w' => (∃ n : Int, e = .returned (.int .i64 n) ∧ (decide (0 ≤ n) = !(s.data.toList.all isDig))) ∧ Below w.heap.size w w' := by
 go_enter Tryz.func359, Tryz.ntmps359
 go_wp2_with fail
 go_loopw [] (fun wr => ∃ k : Nat, k ≤ s.size ∧ wr = w.iter s k ∧ digTo s k = true) (fun wr => s.size - wr.iterPos w.heap.size)
 case atStart => exact ⟨0, Nat.zero_le _, rfl, rfl⟩
 case round =>
  obtain ⟨k, hk, rfl, hf⟩ := hrel
  by_cases hlt : k < s.size
  · by_cases ha : (s[k]).toNat < 128
    · have hn := fun ty => run_next_ascii (P := Tryz.prog) w s k ty hlt ha
      go_wp2_with (go_at_call 289; refine (zho _ _).mono ?_; rintro e w' ⟨rfl, rfl⟩)
      · go_ret
        refine ⟨⟨k, rfl, ?_⟩, (Below.refl _ _).alloc (Nat.le_refl _) _⟩
        rw [ze5 s k hlt (by grind [isDig, badR])]
        simp
      go_roundw
      case rel => exact ⟨k + 1, hlt, rfl, zk9 s k hlt hf (by grind [isDig, badR])⟩
      case measure => simp; omega
    have hn := fun ty => run_next_any (P := Tryz.prog) w s k ty hlt
    have hd := (decode_high s k hlt (by omega)).1
    have hbr : badR ((Utf8.decode s k).1 : Int) = true := by grind [badR]
    go_wp2_with (go_at_call 289; refine (zho _ _).mono ?_; rintro e w' ⟨rfl, rfl⟩)
    go_ret
    refine ⟨⟨k, rfl, ?_⟩, (Below.refl _ _).alloc (Nat.le_refl _) _⟩
    rw [ze5 s k hlt (by grind [isDig])]
    simp
  have hn := fun ty => run_next_end (P := Tryz.prog) w s k ty hlt
  go_wp2_with fail
  go_ret
  refine ⟨⟨-1, rfl, ?_⟩, (Below.refl _ _).alloc (Nat.le_refl _) _⟩
  rw [zhy s k (by omega) hf]
  rfl
theorem zsp {l : List UInt8} (h : l.isEmpty = true) : digs l = false := by simp [digs, h]
theorem zqv {l : List UInt8} (h : l.isEmpty = false) : digs l = l.all isDig := by simp [digs, h]
theorem zdd (s : ByteArray) (w : World) :
   Calls Tryz.prog 248 #[.string s] w fun e w' => e = .returned (.bool (digs s.data.toList)) ∧ Below w.heap.size w w' := by
 have hD : s.toList = s.data.toList := Lib.toList_data s
 obtain ⟨q, hq⟩ : ∃ q, s.toList.isEmpty = q := ⟨_, rfl⟩
 have hq2 : s.data.toList.isEmpty = q := by rw [← hD]; exact hq
 cases q with
 | true =>
   rw [zsp hq2]
   clear hq2 hD
   go_enter Tryz.func248, Tryz.ntmps248
   go_wp2
   go_ret
   exact ⟨rfl, Below.refl _ _⟩
 | false =>
   rw [zqv hq2]
   clear hq2 hD
   obtain ⟨a, ha⟩ : ∃ a, s.data.toList.all isDig = a := ⟨_, rfl⟩
   have C := zuw s
   rw [ha] at C ⊢
   clear ha
   go_enter Tryz.func248, Tryz.ntmps248
   go_wp2_with (first | (go_at_call 288; go_in) | (go_at_call 329; go_in) | (go_at_call 359; refine (C _).mono ?_; rintro e w' ⟨⟨n, rfl, hn⟩, hb⟩))
   all_goals go_ret
   all_goals exact ⟨zac (by cases a <;> simp_all <;> omega), hb⟩
theorem zi0 (s : ByteArray) (w : World) (hs : s.size ≤ 9223372036854775807) :
  Calls Tryz.prog 256 #[.string s] w fun e w' => e = .returned (.bool (digs s.data.toList)) ∧ w = w' := by
 go_enter Tryz.func256, Tryz.ntmps256
 go_wp2
 go_loop [3] (fun i => ∃ k : Nat, k ≤ s.size ∧ i = .int .i64 k ∧ digTo s k = true) (fun i => s.size - (intOf i).toNat)
 case atStart => exact ⟨0, Nat.zero_le _, rfl, rfl⟩
 case round =>
  obtain ⟨k, hk, rfl, hf⟩ := hrel
  by_cases hlt : k < s.size
  · go_wp2
    all_goals first
     | (go_ret
        have hbad := ze5 s k hlt (by grind [isDig])
        exact ⟨zac (by simp [digs, hbad]), rfl⟩)
     | (go_round
        case rel => exact ⟨k + 1, by omega, by go_num, zk9 s k hlt hf (by grind [isDig])⟩
        case measure => simp [intOf]; omega)
  have hall := zhy s k (by omega) hf
  have he : s.data.toList.isEmpty = !decide (0 < s.size) := by
    have : s.data.toList.length = s.size := by simp
    cases h : s.data.toList with
    | nil => rw [h] at this; simp at this; simp [← this]
    | cons b l => rw [h] at this; simp at this; simp; omega
  go_wp2
  go_ret
  exact ⟨zac (by simp [digs, hall, he]), rfl⟩
theorem zli : ∀ (l r : List UInt8), hasPt l = false → wholeOf (l ++ 46 :: r) = l ∧ restOf (l ++ 46 :: r) = r ∧ hasPt (l ++ 46 :: r) = true
 | [], _, _ => ⟨rfl, rfl, rfl⟩
 | b :: l, r, h => by
   have hb : b ≠ 46 := by
    rintro rfl
    simp [hasPt] at h
   simp only [hasPt, hb, if_false] at h
   obtain ⟨h1, h2, h3⟩ := zli l r h
   simp [wholeOf, restOf, hasPt, hb, h1, h2, h3]
theorem zg5 : ∀ (l : List UInt8), hasPt l = false → wholeOf l = l ∧ restOf l = []
 | [], _ => ⟨rfl, rfl⟩
 | b :: l, h => by
   have hb : b ≠ 46 := by
    rintro rfl
    simp [hasPt] at h
   simp only [hasPt, hb, if_false] at h
   obtain ⟨h1, h2⟩ := zg5 l h
   simp [wholeOf, restOf, hb, h1, h2]
theorem zj7 : ∀ (l : List UInt8) (b : UInt8), hasPt l = false → b ≠ 46 → hasPt (l ++ [b]) = false
 | [], b, _, h => by simp [hasPt, h]
 | a :: l, b, h, hb => by
   have ha : a ≠ 46 := by
    rintro rfl
    simp [hasPt] at h
   simp only [hasPt, ha, if_false] at h
   simp [hasPt, ha, zj7 l b h hb]
theorem zrn (s : ByteArray) (k : Nat) (h : k < s.size) : s.data.toList = s.data.toList.take k ++ s[k] :: s.data.toList.drop (k + 1) := by
 have hl : k < s.data.toList.length := by simpa using h
 have := List.drop_eq_getElem_cons hl
 conv => lhs; rw [← List.take_append_drop k s.data.toList, this]
 rfl
theorem zcp {x : ByteArray} {l : List UInt8} (h : x.data.toList = l) : x = str l := by
 obtain ⟨⟨d⟩⟩ := x
 simp at h
 subst h
 rfl
theorem zi5 (s : ByteArray) (w : World) (hsz : s.size ≤ 9223372036854775807) :
  Calls Tryz.prog 255 #[.string s] w fun e w' => e = .returned (.tuple #[.string (str (wholeOf s.data.toList)), .string (str (restOf s.data.toList)), .bool (hasPt s.data.toList)]) ∧ Below w.heap.size w w' := by
 go_enter Tryz.func255, Tryz.ntmps255
 go_wp2
 go_loop [5] (fun i => ∃ k : Nat, k ≤ s.size ∧ i = .int .i64 k ∧ hasPt (s.data.toList.take k) = false) (fun i => s.size - (intOf i).toNat)
 case atStart => exact ⟨0, Nat.zero_le _, rfl, rfl⟩
 case round =>
  obtain ⟨k, hk, rfl, hf⟩ := hrel
  by_cases hlt : k < s.size
  · by_cases hp : s[k] = 46
    · have hs := zrn s k hlt
      rw [hp] at hs
      obtain ⟨h1, h2, h3⟩ := zli _ (s.data.toList.drop (k + 1)) hf
      rw [← hs] at h1 h2 h3
      have hx1 : str (wholeOf s.data.toList) = s.extract 0 k := (zcp (by rw [zgb, h1])).symm
      have hx2 : str (restOf s.data.toList) = s.extract (k + 1) s.size := (zcp (by rw [zlp, h2])).symm
      have HX := hid (And.intro hx1 (And.intro hx2 h3))
      have hpn : (s[k].toNat : Int) = 46 := by rw [hp]; rfl
      clear hs h1 h2 h3 hx1 hx2 hp hf
      have hk1 : (k : Int) + 1 ≤ (s.size : Int) := by omega
      go_wp2
      go_region
      go_wp2
      go_ret3
      exact ⟨by rw [HX.out.1, HX.out.2.1, HX.out.2.2]; rfl, by (repeat' (first | (with_reducible exact Below.refl _ _) | (with_reducible assumption) | (with_reducible refine zbc ?_ _) | (with_reducible refine Below.drew ?_) | (with_reducible refine Below.setCell ?_ ?_ _) | (with_reducible refine Below.alloc ?_ ?_ _) | (with_reducible refine zag ?_ ?_ (by assumption)) | (show _ ≤ _; first | omega | (simp; done) | (simp; omega))))⟩
    have hpn : ¬ (s[k].toNat : Int) = 46 := fun h => hp (UInt8.toNat_inj.1 (by simpa using Int.ofNat.inj h))
    have hn : hasPt (s.data.toList.take (k + 1)) = false := by rw [zc2 s k hlt]; exact zj7 _ _ hf hp
    go_wp2
    go_round
    case rel => exact ⟨k + 1, by omega, by go_num, hn⟩
    case measure => simp [intOf]; omega
  rw [List.take_of_length_le (by simp; omega)] at hf
  obtain ⟨h1, h2⟩ := zg5 _ hf
  have hx : str (wholeOf s.data.toList) = s := (zcp h1.symm).symm
  have HX := hid (And.intro hx (And.intro h2 hf))
  clear hx h1 h2 hf
  go_wp2
  go_ret3
  exact ⟨by rw [HX.out.1, HX.out.2.1, HX.out.2.2]; rfl, by (repeat' (first | (with_reducible exact Below.refl _ _) | (with_reducible assumption) | (with_reducible refine zbc ?_ _) | (with_reducible refine Below.drew ?_) | (with_reducible refine Below.setCell ?_ ?_ _) | (with_reducible refine Below.alloc ?_ ?_ _) | (with_reducible refine zag ?_ ?_ (by assumption)) | (show _ ≤ _; first | omega | (simp; done) | (simp; omega))))⟩
end Go.Proofs.YtjeigphhepngmaaGreatDoor
