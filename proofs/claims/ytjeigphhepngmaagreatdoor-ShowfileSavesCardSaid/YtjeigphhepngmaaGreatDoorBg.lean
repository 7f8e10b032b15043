/- -/
import Derived.Test.YtjeigphhepngmaaGreatDoorAs
import Derived.Test.YtjeigphhepngmaaGreatDoorBd
namespace Go.Proofs.YtjeigphhepngmaaGreatDoor
open Go.RowKit
open Go.Lib (hid)
set_option maxHeartbeats 8000000
set_option linter.unusedSimpArgs false
set_option linter.unusedVariables false
set_option maxRecDepth 100000
theorem w64i {x : Int} (h0 : 0 ≤ x) (h1 : x < 100000000) : wrap64 x = x := by
 unfold wrap64
 omega
theorem zkn (a c : Nat) (h : a + c < 1000) : (wrap64 ((a : Int) + (c : Int))).tmod 255 = (((a + c) % 255 : Nat) : Int) := by
 rw [w64i (by omega) (by omega), Int.tmod_eq_emod_of_nonneg (by omega)]
 omega
theorem zqq (s : ByteArray) (w : World) (hs : s.size ≤ 1000000000) :
  Calls Tryz.prog 245 #[.string s] w fun e w' => e = .returned (.int .i64 (sumN s.data.toList : Nat)) ∧ w = w' := by
 have hs3 : (s.size : Int) ≤ 1000000000 := by omega
 go_enter Tryz.func245, Tryz.ntmps245
 go_wp2
 go_loopw [3, 4, 5] (fun a b i wr => ∃ k : Nat, k ≤ s.size ∧ i = .int .i64 k ∧ a = .int .i64 ((sum2 (s.data.toList.take k)).1 : Nat) ∧ b = .int .i64 ((sum2 (s.data.toList.take k)).2 : Nat) ∧ w = wr) (fun _ _ i _ => s.size - (intOf i).toNat)
 case atStart => exact ⟨0, Nat.zero_le _, rfl, by simp [sum2], by simp [sum2], by first | rfl | trivial⟩
 case round =>
  obtain ⟨k, hk, rfl, rfl, rfl, rfl⟩ := hrel
  have hlt := zgw (s.data.toList.take k)
  by_cases hlt2 : k < s.size
  · have hlt3 : (k : Int) < (s.size : Int) := by omega
    have hk0 : (0 : Int) ≤ (k : Int) := by omega
    have hts : s.data.toList.take (k + 1) = s.data.toList.take k ++ [s[k]] := by
     rw [List.take_succ_eq_append_getElem (by simpa using hlt2)]
     simp [ByteArray.getElem_eq_getElem_data]
    have hst : sum2 (s.data.toList.take (k + 1)) = sumStep (sum2 (s.data.toList.take k)) s[k] := by rw [hts, zkp]
    have hix := zqo s k hlt2
    have hc := s[k].toNat_lt
    generalize sum2 (s.data.toList.take k) = ab at hlt hst ⊢
    obtain ⟨x, y⟩ := ab
    simp only at hlt ⊢
    have e0 : IntKind.i64.wrap (s[k].toNat : Int) = (s[k].toNat : Int) := IntWalk.i64_in _ (by omega)
    have e1 : (wrap64 ((x : Int) + (s[k].toNat : Int))).tmod 255 = (((x + s[k].toNat) % 255 : Nat) : Int) := zkn _ _ (by omega)
    have e2 : (wrap64 ((y : Int) + (((x + s[k].toNat) % 255 : Nat) : Int))).tmod 255 = (((y + (x + s[k].toNat) % 255) % 255 : Nat) : Int) := zkn _ _ (by omega)
    have HE := hid (And.intro e1 (And.intro e2 hst))
    clear e1 e2 hst hts hc
    go_wp2
    go_roundw
    case rel => exact ⟨k + 1, by omega, by go_num, by first | (rw [HE.out.1, HE.out.2.2]; rfl) | (rw [HE.out.2.2, HE.out.1]; rfl), by first | (rw [HE.out.1, HE.out.2.1, HE.out.2.2]; rfl) | (rw [HE.out.2.2, HE.out.1, HE.out.2.1]; rfl), by first | rfl | trivial⟩
    case measure => simp [intOf]; omega
  obtain rfl : k = s.size := by omega
  have hall : s.data.toList.take s.size = s.data.toList := by
    rw [show s.size = s.data.toList.length from (Array.length_toList (xs := s.data)).symm]
    exact List.take_length
  rw [hall] at hlt ⊢
  have HO := hid (show wrap64 (wrap64 (256 * ((sum2 s.data.toList).2 : Int)) + ((sum2 s.data.toList).1 : Int)) = ((sumN s.data.toList : Nat) : Int) from by
    rw [w64i (x := 256 * ((sum2 s.data.toList).2 : Int)) (by omega) (by omega), w64i (by omega) (by omega)]
    unfold sumN
    omega)
  clear hlt hall
  go_wp2
  go_ret
  exact ⟨zab HO.out, rfl⟩
theorem zjk (n : Nat) (w : World) (hn : n < 65536) :
  Calls Tryz.prog 244 #[.int .i64 (n : Int)] w fun e w' => e = .returned (.string (str (wordB n))) ∧ Below w.heap.size w w' := by
 have t1 : ((n : Int).tdiv 256) = ((n / 256 : Nat) : Int) := by rw [Int.tdiv_eq_ediv_of_nonneg (by omega)]; omega
 have t2 : ((n : Int).tmod 256) = ((n % 256 : Nat) : Int) := by rw [Int.tmod_eq_emod_of_nonneg (by omega)]; omega
 have w1 : IntKind.i64.wrap ((n / 256 : Nat) : Int) = ((n / 256 : Nat) : Int) := IntWalk.i64_in _ (by omega)
 have w2 : IntKind.i64.wrap ((n % 256 : Nat) : Int) = ((n % 256 : Nat) : Int) := IntWalk.i64_in _ (by omega)
 have b1 : UInt8.ofNat ((((n / 256 : Nat) : Int)) % 256).toNat = UInt8.ofNat (n / 256) := by congr 1; omega
 have b2 : UInt8.ofNat ((((n % 256 : Nat) : Int)) % 256).toNat = UInt8.ofNat n := by
  apply UInt8.toNat.inj
  simp
  omega
 have C1 := fun W => zdh ((n / 256 : Nat) : Int) W
 simp only [b1] at C1
 have C2 := fun W => zdh ((n % 256 : Nat) : Int) W
 simp only [b2] at C2
 have HX := hid (show str [UInt8.ofNat (n / 256)] ++ str [UInt8.ofNat n] = str (wordB n) from zas _ _)
 have z1 : ((str [UInt8.ofNat (n / 256)]).size : Int) ≤ 10 := by rw [zar]; simp
 have z2 : ((str [UInt8.ofNat n]).size : Int) ≤ 10 := by rw [zar]; simp
 generalize str [UInt8.ofNat (n / 256)] = x at C1 HX z1
 generalize str [UInt8.ofNat n] = y at C2 HX z2
 have hsum : ¬ 9223372036854775807 < (x.size : Int) + (y.size : Int) := by omega
 generalize hq : ((n / 256 : Nat) : Int) = q at t1 w1 C1
 generalize hm : ((n % 256 : Nat) : Int) = m at t2 w2 C2
 have K1 := hid C1
 have K2 := hid C2
 clear b1 b2 hq hm C1 C2
 go_enter Tryz.func244, Tryz.ntmps244
 go_wp2_with fail
 refine (K1.out _).mono ?_
 rintro e v1 ⟨rfl, hb1⟩
 go_wp2_with fail
 refine (K2.out _).mono ?_
 rintro e v2 ⟨rfl, hb2⟩
 go_wp2
 go_ret
 exact ⟨zbl (by first | rfl | rw [HX.out]), bel⟩
theorem zno (kd : UInt8) (d : ByteArray) (w : World) (hd : d.size ≤ 65535) :
  Calls Tryz.prog 239 #[.agg #[.int .i64 (kd.toNat : Int), .string d]] w fun e w' => e = .returned (.string (str (packB kd d))) ∧ Below w.heap.size w w' := by
 have b1 : UInt8.ofNat ((kd.toNat : Int) % 256).toNat = kd := by
  have := kd.toNat_lt
  apply UInt8.toNat.inj
  simp
  omega
 have C1 := fun W => zdh (kd.toNat : Int) W
 simp only [b1] at C1
 have K1 := hid C1
 have K2 := hid (fun W => zjk d.size W (by omega))
 have hhl : (headB kd d).length ≤ 70000 := by
  have e : d.data.toList.length = d.size := by simp
  simp only [headB, wordB, List.length_append, List.length_cons, List.length_nil]
  omega
 have K3 := hid (fun W => zqq (str (headB kd d)) W (by rw [zar]; omega))
 have hsd : (str (headB kd d)).data.toList = headB kd d := by simp [str]
 rw [hsd] at K3
 have K4 := hid (fun W => zjk (sumN (headB kd d)) W (ze7 _))
 have HX1 := hid (show str [kd] ++ str (wordB d.size) ++ d = str (headB kd d) from by rw [zas, headB]; exact (zcz _ _).symm)
 have HX2 := hid (show str (headB kd d) ++ str (wordB (sumN (headB kd d))) = str (packB kd d) from zas _ _)
 have z1 : ((str [kd]).size : Int) ≤ 10 := by rw [zar]; simp
 have z2 : ((str (wordB d.size)).size : Int) ≤ 10 := by rw [zar]; simp [wordB]
 have z3 : ((str (headB kd d)).size : Int) ≤ 70000 := by rw [zar]; omega
 have z4 : ((str (wordB (sumN (headB kd d)))).size : Int) ≤ 10 := by rw [zar]; simp [wordB]
 have hd3 : (d.size : Int) ≤ 65535 := by omega
 generalize sumN (headB kd d) = sm at K3 K4 HX2 z4
 generalize str (wordB sm) = y4 at K4 HX2 z4
 generalize str (headB kd d) = x3 at K3 HX1 HX2 z3
 generalize str [kd] = x1 at C1 K1 HX1 z1
 generalize str (wordB d.size) = x2 at K2 HX1 z2
 generalize (kd.toNat : Int) = kk at C1 K1
 have su1a : ¬ 9223372036854775807 < (x1.size : Int) + (x2.size : Int) := by omega
 have su1b : ¬ 9223372036854775807 < x1.size + x2.size := by omega
 have su2c : ((x1 ++ x2).size : Int) = (x1.size : Int) + (x2.size : Int) := by simp [ByteArray.size_append]
 have su2a : ¬ 9223372036854775807 < (x1.size : Int) + (x2.size : Int) + (d.size : Int) := by omega
 have su2b : ¬ 9223372036854775807 < x1.size + x2.size + d.size := by omega
 have su2d : ¬ 9223372036854775807 < ((x1 ++ x2).size : Int) + (d.size : Int) := by omega
 have su2f : ¬ 9223372036854775807 < (x1 ++ x2).size + d.size := by omega
 have su3a : ¬ 9223372036854775807 < (x3.size : Int) + (y4.size : Int) := by omega
 obtain ⟨Z, hZ⟩ : ∃ Z, w.alloc (.cells #[.int .i64 kk, .string d] 98) = Z := ⟨_, rfl⟩
 have r0 : RowAt Z w.heap.size 98 #[.int .i64 kk, .string d] := by rw [← hZ]; exact RowAt.new _ _ _
 have hbz : Below w.heap.size w Z := by rw [← hZ]; exact bel
 have HZ := hid (And.intro r0 hbz)
 have hsz := hbz.size
 have HK := hid (fun (W : World) (hW : Below Z.heap.size Z W) => (show W.cell? ⟨w.heap.size, 0, none⟩ = some (.int .i64 kk) ∧ W.cell? ⟨w.heap.size, 1, none⟩ = some (.string d) from by
  obtain ⟨f, _⟩ := zaa (HZ.out.1.run hW)
  exact ⟨f 0, f 1⟩))
 obtain ⟨e0, e1⟩ := HK.out Z (Below.refl _ _)
 clear b1 C1 hhl hsd hd r0 hbz
 go_enter Tryz.func239, Tryz.ntmps239
 go_wp2
 go_cut [3] (fun s3 wx => s3 = .string (x1 ++ x2 ++ d) ∧ Below Z.heap.size Z wx)
 case first =>
  go_region_held3 (fun w' => w'.cell? ⟨w.heap.size, 0, none⟩ = some (.int .i64 kk) ∧ w'.cell? ⟨w.heap.size, 1, none⟩ = some (.string d)) (first | exact HK.out _ bel | go_keep)
   (first | (go_at_call 216; (with_reducible refine (K1.out _).mono ?_); rintro e w4 ⟨rfl, hb4⟩) | (go_at_call 244; (with_reducible refine (K2.out _).mono ?_); rintro e w5 ⟨rfl, hb5⟩))
  all_goals (go_wp2_with fail; go_meet)
  all_goals exact ⟨rfl, bel⟩
 obtain ⟨rfl, hbc⟩ := hcut
 rw [HX1.out]
 have HB := hid (HZ.out.2.trans (hbc.mono hsz))
 clear hbc e0 e1 HK
 go_wp2_with fail
 refine (K3.out _).mono ?_
 rintro e w6 ⟨rfl, rfl⟩
 go_wp2_with fail
 refine (K4.out _).mono ?_
 rintro e w7 ⟨rfl, hb7⟩
 have HB2 := hid (HB.out.trans (hb7.mono HB.out.size))
 clear hb7
 go_wp2
 go_ret
 exact ⟨zbl (by first | rfl | rw [HX2.out]), HB2.out⟩
theorem zpd (kd : UInt8) (d : ByteArray) (w : World) (hd : d.size ≤ 65535) :
  Calls Tryz.prog 149 #[.agg #[.int .i64 (kd.toNat : Int), .string d]] w fun e w' => e = .returned (.tuple #[.string (str (packB kd d)), .int .i64 0]) ∧ Below w.heap.size w w' := by
 have hk := kd.toNat_lt
 have b0 : Below w.heap.size w (w.alloc (.cells #[.int .i64 (kd.toNat : Int), .string d] 98)) := bel
 have K := hid (fun W => zno kd d W hd)
 have h1 : ¬ (kd.toNat : Int) < 0 := by omega
 have h2 : ¬ (255 : Int) < (kd.toNat : Int) := by omega
 have h3 : ¬ (65535 : Int) < (d.size : Int) := by omega
 have HB := hid b0
 generalize str (packB kd d) = o at K ⊢
 generalize (kd.toNat : Int) = kk at K h1 h2 HB
 clear hk hd b0
 go_enter Tryz.func149, Tryz.ntmps149
 go_wp2_with fail
 refine (K.out _).mono ?_
 rintro e w1 ⟨rfl, hb1⟩
 have H1 := hid (HB.out.trans (hb1.mono HB.out.size))
 clear hb1
 go_wp2
 go_ret2
 exact ⟨rfl, H1.out⟩
theorem zrc (v : Value) (l : List Ent) (w : World) (hv : ListAt 2 entA w v l) (hok : ∀ x ∈ l, entOk x = true) (hl : l.length ≤ 10000) :
  Calls Tryz.prog 64 #[v] w fun e w' => e = .returned (.tuple #[.string (str (joinB l)), .int .i64 0]) ∧ Below w.heap.size w w' := by
 obtain ⟨a, cap, rfl⟩ := hv.shape
 have HV := hid hv
 have HOK := hid hok
 have hl3 : (l.length : Int) ≤ 10000 := by omega
 have HJ := hid (zdp l hok)
 clear hv hok
 go_enter Tryz.func64, Tryz.ntmps64
 go_wp2
 go_loopw [4, 5, 6, 7] (fun s i _ _ wr => ∃ k : Nat, k ≤ l.length ∧ i = .int .i64 k ∧ s = .string (str (joinB (l.take k))) ∧ Hid (Below w.heap.size w wr)) (fun _ i _ _ _ => l.length - (intOf i).toNat)
 case atStart => exact ⟨0, Nat.zero_le _, rfl, rfl, hid (Below.refl _ _)⟩
 case round =>
  obtain ⟨k, hk, rfl, rfl, hh⟩ := hrel
  by_cases hlt : k < l.length
  · have hlt3 : (k : Int) < (l.length : Int) := by omega
    obtain ⟨x, hx⟩ : ∃ x, l[k]? = some x := ⟨_, List.getElem?_eq_getElem hlt⟩
    obtain ⟨g, off, cap', he, hg0, hc⟩ := HV.out.at_ (by decide) hx
    cases he
    have hox := HOK.out x (List.mem_of_getElem? hx)
    simp only [entOk, decide_eq_true_eq] at hox
    have HT := hid (zaf hx)
    obtain ⟨kd, dt⟩ := x
    have e0 : wr.cell? ⟨g, off + k * 2, none⟩ = some (.int .i64 (kd.toNat : Int)) := hc wr hh.out 0 (by decide)
    have e1 : wr.cell? ⟨g, off + k * 2 + 1, none⟩ = some (.string dt) := hc wr hh.out 1 (by decide)
    have K := hid (fun W => zpd kd dt W hox)
    have HX := hid (show str (joinB (l.take k)) ++ str (packB kd dt) = str (joinB (l.take (k + 1))) from by rw [zas, HT.out, zhp])
    have hpl := zeb (kd, dt)
    have hjl := zdp (l.take k) (fun y hy => HOK.out y (List.mem_of_mem_take hy))
    have htl := List.length_take_le k l
    simp only at hpl hox
    have zx : ((str (joinB (l.take k))).size : Int) ≤ 1000000000 := by rw [zar]; omega
    have zy : ((str (packB kd dt)).size : Int) ≤ 1000000000 := by rw [zar]; omega
    generalize str (joinB (l.take k)) = x at zx HX ⊢
    generalize str (packB kd dt) = y at zy HX K
    generalize (kd.toNat : Int) = kk at e0 K
    have hsum : ¬ 9223372036854775807 < (x.size : Int) + (y.size : Int) := by omega
    clear hx hc hpl hjl htl hox hk
    go_wp2_with fail
    refine (K.out _).mono ?_
    rintro e w1 ⟨rfl, hb1⟩
    have H1 := hid (hh.out.trans (hb1.mono hh.out.size))
    clear hb1
    go_wp2
    go_roundw
    case rel => exact ⟨k + 1, by omega, by go_num, by rw [HX.out], H1⟩
    case measure => simp [intOf]; omega
  obtain rfl : k = l.length := by omega
  have HT := hid (show l.take l.length = l from List.take_length)
  rw [HT.out]
  go_wp2
  go_ret2
  exact ⟨rfl, hh.out⟩
def saveS (s : ShowD) : ByteArray × Int := if showE s ≠ 0 then (⟨#[]⟩, showE s) else if 65536 < (joinB (piecesL s)).length then (⟨#[]⟩, 13) else (str (joinB (piecesL s)), 0)
theorem zw1 {l : List Ent} (h : ∀ x ∈ l, entOk x = true) : joinV l = .tuple #[.string (str (joinB l)), .int .i64 0] := by
 rw [joinV, if_pos (List.all_eq_true.2 h)]
theorem ztz (s : ShowD) (v : ShowV) (w : World) (h : ShowAt w v s) (h64 : Show64 s) :
   Calls Tryz.prog 22 #[.agg (showA s v)] w fun e w' => e = .returned (.tuple #[.string (saveS s).1, .int .i64 (saveS s).2]) ∧ Below w.heap.size w w' := by
 have b0 : Below w.heap.size w (w.alloc (.cells (showA s v) 31)) := bel
 have r0 : RowAt (w.alloc (.cells (showA s v) 31)) w.heap.size 31 (showA s v) := RowAt.new _ _ _
 have C := hid (fun (W : World) (hb : Below w.heap.size w W) => zkq s v W (h.run hb) h64)
 have hfew := zfz (s := s)
 have HF := hid (show (piecesP s).length ≤ 1000000 from by omega)
 have HF2 := hid (show (piecesP s).length ≤ 10000 from by omega)
 have HJ := hid (fun (h0 : showE s = 0) => (show (∀ x ∈ piecesP s, entOk x = true) ∧ piecesP s = piecesL s from by
   have e : piecesP s = piecesL s := by rw [piecesP, if_pos h0]
   exact ⟨by rw [e]; exact zkv (zdk h0) h64, e⟩))
 have HS0 := hid (show showE s ≠ 0 → saveS s = (⟨#[]⟩, showE s) from fun h0 => by rw [saveS, if_pos h0])
 have HS1 := hid (show showE s = 0 → 65536 < (joinB (piecesL s)).length → saveS s = (⟨#[]⟩, 13) from fun h0 h1 => by rw [saveS, if_neg (by simp [h0]), if_pos h1])
 have HS2 := hid (show showE s = 0 → ¬ 65536 < (joinB (piecesL s)).length → saveS s = (str (joinB (piecesL s)), 0) from fun h0 h1 => by rw [saveS, if_neg (by simp [h0]), if_neg h1])
 generalize piecesP s = ps at C HF HF2 HJ
 generalize piecesL s = pl at HJ HS1 HS2
 generalize showE s = r at C HJ HS0 HS1 HS2
 generalize saveS s = sv at HS0 HS1 HS2 ⊢
 have H0 := hid (And.intro r0 b0)
 obtain ⟨a1, n1, c1, a2, n2, c2, a3, n3, c3, a4, n4, c4, a5, n5, c5, a6, n6, c6, a7, n7, c7, a8, n8, c8, hsa⟩ := zdq h
 rw [hsa] at C H0 r0 ⊢
 clear h h64 hsa b0 hfew
 obtain ⟨x1, x2, x3, x4, x5, x6⟩ := zaa r0
 go_enter Tryz.func22, Tryz.ntmps22
 go_wp2_with fail
 refine (C.out _ H0.out.2).mono ?_
 rintro e w1 ⟨⟨u, rfl, hown⟩, hb1⟩
 have H1 := hid (And.intro (zdj hown HF.out) (H0.out.2.trans (hb1.mono H0.out.2.size)))
 clear hb1 x1 x2 x3 x4 x5 x6 r0 hown C H0
 obtain ⟨ua, uc, rfl⟩ := H1.out.1.shape
 by_cases h0 : r = 0
 · subst h0
   obtain ⟨hok, rfl⟩ := HJ.out rfl
   have D := hid (show Calls Tryz.prog 63 #[.slice ua ps.length uc] w1 fun e w' => e = .returned (.tuple #[.string (str (joinB ps)), .int .i64 0]) ∧ Below w1.heap.size w1 w' from by rw [← zw1 hok]; exact zdg _ ps w1 H1.out.1 HF.out)
   have hjl := zdp ps hok
   have hpl := HF2.out
   have hz : (str (joinB ps)).size = (joinB ps).length := zar _
   by_cases hq : 65536 < (joinB ps).length
   · have HV := hid (HS1.out rfl hq)
     have hz3 : (65536 : Int) < ((str (joinB ps)).size : Int) := by omega
     clear hjl hpl hz hq hok
     generalize str (joinB ps) = o at D hz3
     go_wp2_with fail
     refine D.out.mono ?_
     rintro e w2 ⟨rfl, hb2⟩
     have H2 := hid (H1.out.2.trans (hb2.mono H1.out.2.size))
     clear hb2
     go_wp2
     go_ret2
     rw [HV.out]
     exact ⟨rfl, H2.out⟩
   have HV := hid (HS2.out rfl hq)
   have hz3 : ¬ (65536 : Int) < ((str (joinB ps)).size : Int) := by omega
   clear hjl hpl hz hq hok
   generalize str (joinB ps) = o at D hz3 HV
   go_wp2_with fail
   refine D.out.mono ?_
   rintro e w2 ⟨rfl, hb2⟩
   have H2 := hid (H1.out.2.trans (hb2.mono H1.out.2.size))
   clear hb2
   go_wp2
   go_ret2
   rw [HV.out]
   exact ⟨rfl, H2.out⟩
 have h1 : (r != 0) = true := by simpa using h0
 have HV := hid (HS0.out h0)
 go_wp2
 go_ret2
 rw [HV.out]
 exact ⟨rfl, H1.out.2⟩
theorem zrg (s : ShowD) (v : ShowV) (w : World) (h : ShowAt w v s) (h64 : Show64 s) :
   Calls Tryz.prog 23 #[.agg (showA s v)] w fun e w' => e = .returned (.tuple #[.string (saveS s).1, .int .i64 (saveS s).2]) ∧ Below w.heap.size w w' := by
 have b0 : Below w.heap.size w (w.alloc (.cells (showA s v) 31)) := bel
 have r0 : RowAt (w.alloc (.cells (showA s v) 31)) w.heap.size 31 (showA s v) := RowAt.new _ _ _
 have C := hid (fun (W : World) (hb : Below w.heap.size w W) => ziu s v W (h.run hb) h64)
 have hfew := zfz (s := s)
 have HF := hid (show (piecesP s).length ≤ 1000000 from by omega)
 have HF2 := hid (show (piecesP s).length ≤ 10000 from by omega)
 have HJ := hid (fun (h0 : showE s = 0) => (show (∀ x ∈ piecesP s, entOk x = true) ∧ piecesP s = piecesL s from by
   have e : piecesP s = piecesL s := by rw [piecesP, if_pos h0]
   exact ⟨by rw [e]; exact zkv (zdk h0) h64, e⟩))
 have HS0 := hid (show showE s ≠ 0 → saveS s = (⟨#[]⟩, showE s) from fun h0 => by rw [saveS, if_pos h0])
 have HS1 := hid (show showE s = 0 → 65536 < (joinB (piecesL s)).length → saveS s = (⟨#[]⟩, 13) from fun h0 h1 => by rw [saveS, if_neg (by simp [h0]), if_pos h1])
 have HS2 := hid (show showE s = 0 → ¬ 65536 < (joinB (piecesL s)).length → saveS s = (str (joinB (piecesL s)), 0) from fun h0 h1 => by rw [saveS, if_neg (by simp [h0]), if_neg h1])
 generalize piecesP s = ps at C HF HF2 HJ
 generalize piecesL s = pl at HJ HS1 HS2
 generalize showE s = r at C HJ HS0 HS1 HS2
 generalize saveS s = sv at HS0 HS1 HS2 ⊢
 have H0 := hid (And.intro r0 b0)
 obtain ⟨a1, n1, c1, a2, n2, c2, a3, n3, c3, a4, n4, c4, a5, n5, c5, a6, n6, c6, a7, n7, c7, a8, n8, c8, hsa⟩ := zdq h
 rw [hsa] at C H0 r0 ⊢
 clear h h64 hsa b0 hfew
 obtain ⟨x1, x2, x3, x4, x5, x6⟩ := zaa r0
 go_enter Tryz.func23, Tryz.ntmps23
 go_wp2_with fail
 refine (C.out _ H0.out.2).mono ?_
 rintro e w1 ⟨⟨u, rfl, hown⟩, hb1⟩
 have H1 := hid (And.intro (zdj hown HF.out) (H0.out.2.trans (hb1.mono H0.out.2.size)))
 clear hb1 x1 x2 x3 x4 x5 x6 r0 hown C H0
 obtain ⟨ua, uc, rfl⟩ := H1.out.1.shape
 by_cases h0 : r = 0
 · subst h0
   obtain ⟨hok, rfl⟩ := HJ.out rfl
   have D := hid (zrc _ ps w1 H1.out.1 hok HF2.out)
   have hjl := zdp ps hok
   have hpl := HF2.out
   have hz : (str (joinB ps)).size = (joinB ps).length := zar _
   by_cases hq : 65536 < (joinB ps).length
   · have HV := hid (HS1.out rfl hq)
     have hz3 : (65536 : Int) < ((str (joinB ps)).size : Int) := by omega
     clear hjl hpl hz hq hok
     generalize str (joinB ps) = o at D hz3
     go_wp2_with fail
     refine D.out.mono ?_
     rintro e w2 ⟨rfl, hb2⟩
     have H2 := hid (H1.out.2.trans (hb2.mono H1.out.2.size))
     clear hb2
     go_wp2
     go_ret2
     rw [HV.out]
     exact ⟨rfl, H2.out⟩
   have HV := hid (HS2.out rfl hq)
   have hz3 : ¬ (65536 : Int) < ((str (joinB ps)).size : Int) := by omega
   clear hjl hpl hz hq hok
   generalize str (joinB ps) = o at D hz3 HV
   go_wp2_with fail
   refine D.out.mono ?_
   rintro e w2 ⟨rfl, hb2⟩
   have H2 := hid (H1.out.2.trans (hb2.mono H1.out.2.size))
   clear hb2
   go_wp2
   go_ret2
   rw [HV.out]
   exact ⟨rfl, H2.out⟩
 have h1 : (r != 0) = true := by simpa using h0
 have HV := hid (HS0.out h0)
 go_wp2
 go_ret2
 rw [HV.out]
 exact ⟨rfl, H1.out.2⟩
theorem zvb (s : ShowD) (v : ShowV) (w : World) (h : ShowAt w v s) (h64 : Show64 s) :
   Calls Tryz.prog 5 #[.agg (showA s v)] w fun e w' => e = .returned (.bool true) ∧ Below w.heap.size w w' := by
 have r0 : RowAt (w.alloc (.cells (showA s v) 31)) w.heap.size 31 (showA s v) := RowAt.new _ _ _
 have b0 : Below w.heap.size w (w.alloc (.cells (showA s v) 31)) := bel
 have CF := hid (fun (W : World) (hb : Below w.heap.size w W) => zjg s v W (h.run hb))
 have CP := hid (fun (W : World) (hb : Below w.heap.size w W) => ztz s v W (h.run hb) h64)
 have CR := hid (fun (W : World) (hb : Below w.heap.size w W) => zrg s v W (h.run hb) h64)
 generalize saveS s = sv at CP CR
 obtain ⟨f, r⟩ := sv
 simp only at CP CR
 have H0 := hid (And.intro r0 b0)
 obtain ⟨a1, n1, c1, a2, n2, c2, a3, n3, c3, a4, n4, c4, a5, n5, c5, a6, n6, c6, a7, n7, c7, a8, n8, c8, hsa⟩ := zdq h
 rw [hsa] at CF CP CR H0 r0 ⊢
 clear h h64 hsa b0
 obtain ⟨x1, x2, x3, x4, x5, x6⟩ := zaa r0
 go_enter Tryz.func5, Tryz.ntmps5
 go_wp2_with fail
 refine (CF.out _ H0.out.2).mono ?_
 rintro e w1 ⟨t, rfl, hb1⟩
 have H1 := hid (And.intro (H0.out.1.run hb1) (H0.out.2.trans (hb1.mono H0.out.2.size)))
 clear hb1 x1 x2 x3 x4 x5 x6 r0
 obtain ⟨x1, x2, x3, x4, x5, x6⟩ := zaa H1.out.1
 cases t with
 | false =>
   go_wp2_with fail
   refine (zd4 w1).mono ?_
   rintro e w2 ⟨rfl, hb2⟩
   have H2 := hid (H1.out.2.trans (hb2.mono H1.out.2.size))
   clear hb2
   go_wp2
   go_ret
   exact ⟨rfl, H2.out⟩
 | true =>
   go_wp2_with fail
   refine (CP.out _ H1.out.2).mono ?_
   rintro e w2 ⟨rfl, hb2⟩
   have H2 := hid (And.intro (H1.out.1.run hb2) (H1.out.2.trans (hb2.mono H1.out.2.size)))
   clear hb2 x1 x2 x3 x4 x5 x6
   obtain ⟨x1, x2, x3, x4, x5, x6⟩ := zaa H2.out.1
   go_wp2_with fail
   refine (CR.out _ H2.out.2).mono ?_
   rintro e w3 ⟨rfl, hb3⟩
   have H3 := hid (H2.out.2.trans (hb3.mono H2.out.2.size))
   clear hb3 x1 x2 x3 x4 x5 x6
   go_wp2_with fail
   refine (zd4 w3).mono ?_
   rintro e w6 ⟨rfl, hb6⟩
   have H6 := hid (H3.out.trans (hb6.mono H3.out.size))
   clear hb6
   go_wp2
   go_ret
   exact ⟨rfl, H6.out⟩
end Go.Proofs.YtjeigphhepngmaaGreatDoor
