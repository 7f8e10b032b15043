/-
  The walk of the law ManagerWaits.
-/
import Derived.Test.YtpjmhhfpjhmiiaaGreatQt
import Derived.Test.YtpjmhhfpjhmiiaaGreatQn
namespace Go.Proofs.YtpjmhhfpjhmiiaaGreat
open Go.RowKit Go.Shelf

set_option maxHeartbeats 8000000 in
set_option maxRecDepth 100000 in
theorem law_waits (x : Mgr) (da fa la : Option Addr) (dn dc fn fc ln lc : Nat) (y : Wre) (dst1 kind1 par1 : Int) (dat1 : ByteArray) (dst2 kind2 par2 : Int) (dat2 : ByteArray) (w : World) (h : WireAt w (.slice da dn dc) (.slice fa fn fc) (.slice la ln lc) y) (hr : y.devs.length * 56 ≤ 140737488351232) :
    Calls Tryz.prog 9 #[.agg #[.int .u64 x.id, .int .i64 x.seq, .int .i64 x.tries, .slice da dn dc, .slice fa fn fc, .slice la ln lc], .agg #[.int .u64 dst1, .int .i64 kind1, .int .i64 par1, .string dat1], .agg #[.int .u64 dst2, .int .i64 kind2, .int .i64 par2, .string dat2]] w fun e w' => e = .returned (.bool true) ∧ Below w.heap.size w w' := by
  obtain ⟨xi, xs, xt⟩ := x
  obtain ⟨l, f0, t0⟩ := y
  dsimp only at hr
  show Calls Tryz.prog 9 #[.agg #[.int .u64 xi, .int .i64 xs, .int .i64 xt, .slice da dn dc, .slice fa fn fc, .slice la ln lc], _, _] w _
  obtain ⟨W, hW⟩ : ∃ W, ((w.alloc (.cells #[.int .u64 xi, .int .i64 xs, .int .i64 xt, .slice da dn dc, .slice fa fn fc, .slice la ln lc] 31)).alloc (.cells #[.int .u64 dst1, .int .i64 kind1, .int .i64 par1, .string dat1] 50)).alloc (.cells #[.int .u64 dst2, .int .i64 kind2, .int .i64 par2, .string dat2] 50) = W := ⟨_, rfl⟩
  have hbW : Below w.heap.size w W := by rw [← hW]; (repeat' (first | (with_reducible exact Below.refl _ _) | (with_reducible assumption) | (with_reducible refine below_run ?_ (by assumption)) | (with_reducible refine below_of_upd ?_ (by assumption) ?_) | (with_reducible refine below_drewN ?_ _) | (with_reducible refine Below.drew ?_) | (with_reducible refine below_seven ?_ ?_) | (with_reducible refine below_six ?_ ?_) | (with_reducible refine below_one ?_ ?_) | (with_reducible refine Below.alloc ?_ ?_ _) | (with_reducible refine below_after ?_ ?_ (by assumption)) | (show _ ≤ _; first | omega | (simp; done) | (simp; omega))))
  have hWz : W.heap.size = w.heap.size + 3 := by rw [← hW]; simp
  have r0 : RowAt W w.heap.size 31 #[.int .u64 xi, .int .i64 xs, .int .i64 xt, .slice da dn dc, .slice fa fn fc, .slice la ln lc] := by rw [← hW]; exact ((RowAt.new _ _ _).alloc _).alloc _
  have r1 : RowAt W (w.heap.size + 1) 50 #[.int .u64 dst1, .int .i64 kind1, .int .i64 par1, .string dat1] := by rw [← hW]; exact (RowAt.mk (by simp) rfl).alloc _
  have r2 : RowAt W (w.heap.size + 2) 50 #[.int .u64 dst2, .int .i64 kind2, .int .i64 par2, .string dat2] := by rw [← hW]; exact RowAt.mk (by simp) rfl
  obtain ⟨x1, x2, x3, x4, x5, x6⟩ := row_facts r0
  have g4 := cell_fact r0 4
  have g5 := cell_fact r0 5
  simp only [List.getElem?_toArray] at g4 g5
  have hV : RowAt ((W.setCell ⟨w.heap.size, 4, none⟩ (.slice (some ⟨w.heap.size + 3, 0, none⟩) 1 1)).setCell ⟨w.heap.size, 5, none⟩ (.slice none 0 0)) w.heap.size 31 #[.int .u64 xi, .int .i64 xs, .int .i64 xt, .slice da dn dc, .slice (some ⟨w.heap.size + 3, 0, none⟩) 1 1, .slice none 0 0] := RowAt.set (RowAt.set r0 rfl) rfl
  have hVz : ((W.setCell ⟨w.heap.size, 4, none⟩ (.slice (some ⟨w.heap.size + 3, 0, none⟩) 1 1)).setCell ⟨w.heap.size, 5, none⟩ (.slice none 0 0)).heap.size = w.heap.size + 3 := by simp [hWz]
  have v1 := (r1.far1 (u := .slice (some ⟨w.heap.size + 3, 0, none⟩) 1 1) (i := 4) (g := w.heap.size) (by omega)).far1 (u := .slice none 0 0) (i := 5) (g := w.heap.size) (by omega)
  have v2 := (r2.far1 (u := .slice (some ⟨w.heap.size + 3, 0, none⟩) 1 1) (i := 4) (g := w.heap.size) (by omega)).far1 (u := .slice none 0 0) (i := 5) (g := w.heap.size) (by omega)
  have hbV : Below w.heap.size w ((W.setCell ⟨w.heap.size, 4, none⟩ (.slice (some ⟨w.heap.size + 3, 0, none⟩) 1 1)).setCell ⟨w.heap.size, 5, none⟩ (.slice none 0 0)) := below_one (below_one hbW (Nat.le_refl _)) (Nat.le_refl _)
  have q0 := hV.alloc (.cells #[.int .i64 4] 3)
  have q1 := v1.alloc (.cells #[.int .i64 4] 3)
  have q2 := v2.alloc (.cells #[.int .i64 4] 3)
  have q3 := RowAt.new ((W.setCell ⟨w.heap.size, 4, none⟩ (.slice (some ⟨w.heap.size + 3, 0, none⟩) 1 1)).setCell ⟨w.heap.size, 5, none⟩ (.slice none 0 0)) 3 #[.int .i64 4]
  rw [hVz] at q3
  have hbQ := hbV.alloc (by rw [hVz]; omega) (.cells #[.int .i64 4] 3)
  obtain ⟨Q, hQ⟩ : ∃ Q, ((W.setCell ⟨w.heap.size, 4, none⟩ (.slice (some ⟨w.heap.size + 3, 0, none⟩) 1 1)).setCell ⟨w.heap.size, 5, none⟩ (.slice none 0 0)).alloc (.cells #[.int .i64 4] 3) = Q := ⟨_, rfl⟩
  rw [hQ] at q0 q1 q2 q3 hbQ
  have hi4 : IntsAt Q (.slice (some ⟨w.heap.size + 3, 0, none⟩) 1 1) [4] := ints_line (l := [4]) q3 rfl (by decide) (by decide)
  have hwq := h.run hbQ
  have HWQ := Lib.hid (show WireAt Q (.slice da dn dc) (.slice (some ⟨w.heap.size + 3, 0, none⟩) 1 1) (.slice none 0 0) ⟨l, [4], []⟩ from ⟨hwq.devs, hwq.room, hi4, .inl ⟨rfl, _, _, rfl⟩⟩)
  have R0 := Lib.hid q0
  have R1 := Lib.hid q1
  have R2 := Lib.hid q2
  have HB := Lib.hid hbQ
  obtain ⟨y1, y2, y3, y4, y5, y6⟩ := row_facts q0
  obtain ⟨z1, z2, z3, z4, z5, z6⟩ := row_facts q1
  obtain ⟨u1', u2', u3', u4', u5', u6'⟩ := row_facts q2
  obtain ⟨q, hq⟩ : ∃ q, rightW ⟨xi, xs, xt⟩ ⟨l, [4], []⟩ = q := ⟨_, rfl⟩
  have CR := Lib.hid (wright_any q xi xs xt da (some ⟨w.heap.size + 3, 0, none⟩) none dn dc 1 1 0 0 ⟨l, [4], []⟩ Q HWQ.out hr hq)
  have HQ := Lib.hid hq
  clear h r0 r1 r2 hbW hV v1 v2 hbV q0 q1 q2 q3 hbQ hi4 hwq hq
  go_enter Tryz.func9, Tryz.ntmps9
  go_upto_region 2 with fail
  rw [show w.heap.size + 1 + 1 = w.heap.size + 2 from rfl]
  go_wp2_with fail
  refine (CR.out).mono ?_
  rintro e w1 ⟨rfl, hb1⟩
  have HB1 := Lib.hid (below_run HB.out hb1)
  have H1 := Lib.hid (HWQ.out.run hb1)
  have r0 := R0.out.run hb1
  have r1 := R1.out.run hb1
  have r2 := R2.out.run hb1
  have R01 := Lib.hid r0
  have R11 := Lib.hid r1
  have R21 := Lib.hid r2
  clear hb1 x1 x2 x3 x4 x5 x6 y1 y2 y3 y4 y5 y6 z1 z2 z3 z4 z5 z6 u1' u2' u3' u4' u5' u6' g4 g5 R0 R1 R2 HB HWQ CR hQ hW hWz hVz
  obtain ⟨x1, x2, x3, x4, x5, x6⟩ := row_facts r0
  obtain ⟨y1, y2, y3, y4, y5, y6⟩ := row_facts r1
  obtain ⟨z1, z2, z3, z4, z5, z6⟩ := row_facts r2
  clear r0 r1 r2
  have hways : q = false ∨ (q = true ∧ (300 : Int) < (dat1.size : Int)) ∨ (q = true ∧ ¬ (300 : Int) < (dat1.size : Int) ∧ (300 : Int) < (dat2.size : Int)) ∨ (q = true ∧ ¬ (300 : Int) < (dat1.size : Int) ∧ ¬ (300 : Int) < (dat2.size : Int)) := by
    cases q
    · exact .inl rfl
    · simp only [reduceCtorEq, false_or, true_and]
      omega
  have HW := Lib.hid hways
  clear hways
  rcases HW.out with rfl | ⟨rfl, a1⟩ | ⟨rfl, a1, a2⟩ | ⟨rfl, a1, a2⟩
  · skip
    go_wp2_with fail
    refine (awake49_any _).mono ?_
    rintro e w2 ⟨rfl, hb2⟩
    go_wp2
    go_ret
    exact ⟨rfl, below_run HB1.out hb2⟩
  · skip
    go_wp2_with fail
    refine (awake49_any _).mono ?_
    rintro e w2 ⟨rfl, hb2⟩
    go_wp2
    go_ret
    exact ⟨rfl, below_run HB1.out hb2⟩
  · skip
    go_wp2_with fail
    refine (awake49_any _).mono ?_
    rintro e w2 ⟨rfl, hb2⟩
    go_wp2
    go_ret
    exact ⟨rfl, below_run HB1.out hb2⟩
  · obtain ⟨N, hN⟩ : ∃ N, givenE ⟨xi, xs, xt⟩ ⟨l, [4], []⟩ ⟨dst1, kind1, par1, dat1⟩ = N := ⟨_, rfl⟩
    have CS := msendU_any ⟨xi, xs, xt⟩ da (some ⟨w.heap.size + 3, 0, none⟩) none dn dc 1 1 0 0 ⟨l, [4], []⟩ dst1 kind1 par1 dat1 w1 H1.out
    rw [hN] at CS
    by_cases hz : N = 0
    · subst hz
      obtain ⟨p1, p2, p3, p4⟩ := waits_law (s := ⟨dst2, kind2, par2, dat2⟩) hN
      have hU : sendU ⟨xi, xs, xt⟩ ⟨l, [4], []⟩ ⟨dst1, kind1, par1, dat1⟩ = (nextM ⟨xi, xs, xt⟩, sendW ⟨xi, xs, xt⟩ ⟨dst1, kind1, par1, dat1⟩ ⟨l, [4], []⟩, []) := by rw [sendU, if_pos hN, p1]
      rw [hU] at CS
      obtain ⟨⟨D, F, T⟩, hS⟩ : ∃ S, sendW ⟨xi, xs, xt⟩ ⟨dst1, kind1, par1, dat1⟩ ⟨l, [4], []⟩ = S := ⟨_, rfl⟩
      obtain ⟨⟨ni, ns, nt⟩, hX⟩ : ∃ X, nextM ⟨xi, xs, xt⟩ = X := ⟨_, rfl⟩
      have hDz : D.length * 56 ≤ 140737488351232 := by
        have hh : ((sendW ⟨xi, xs, xt⟩ ⟨dst1, kind1, par1, dat1⟩ ⟨l, [4], []⟩).devs).length = l.length := by
          show (if faultW ⟨l, [4], []⟩ = 1 then l else sentD l _).length = _
          split
          · rfl
          · exact sentD_length _ _
        rw [hS] at hh
        dsimp only at hh
        omega
      rw [hS, hX] at p3 p4 CS
      rw [hS] at p2
      dsimp only at p2 p3 p4
      subst p2
      obtain ⟨E, hE⟩ : ∃ E, askE ⟨ni, ns, nt⟩ ⟨D, [], []⟩ ⟨dst2, kind2, par2, dat2⟩ = E := ⟨_, rfl⟩
      obtain ⟨⟨⟨oi, os, ot⟩, ⟨G, gf, gt⟩, ⟨ak, ad, ar, at'⟩⟩, hP⟩ : ∃ P, askU ⟨ni, ns, nt⟩ ⟨D, [], []⟩ ⟨dst2, kind2, par2, dat2⟩ = P := ⟨_, rfl⟩
      have hGz : G.length * 56 ≤ 140737488351232 := by
        have h9 := askU_length ⟨ni, ns, nt⟩ ⟨D, [], []⟩ ⟨dst2, kind2, par2, dat2⟩
        rw [hP] at h9
        have h10 : G.length ≤ D.length := h9
        omega
      have HGZ := Lib.hid hGz
      have CA1 := Lib.hid (fun (V : World) da fa la dc fc lc hv => ask_lift (V := V) (W := V) (da := da) (fa := fa) (la := la) (dn := D.length) (dc := dc) (fn := 0) (fc := fc) (ln := T.length) (lc := lc) (p4.trans hP) (p3.trans hE) hv (Below.refl _ _))
      have CA2 := Lib.hid (fun (V : World) da fa la dc fc lc hv => ask_lift (V := V) (W := V) (da := da) (fa := fa) (la := la) (dn := D.length) (dc := dc) (fn := 0) (fc := fc) (ln := 0) (lc := lc) hP hE hv (Below.refl _ _))
      have CS1 := Lib.hid CS
      clear CS p1 p3 p4 hU hS hX hE hP hN hGz
      go_wp2_with fail
      refine CS1.out.mono ?_
      rintro e w2 ⟨da', fa', la', ma, dn', dc', fn', fc', ln', lc', mn, mc, he, hw2, hms, hb2⟩
      obtain rfl : e = .returned (.tuple #[.agg #[.int .u64 ni, .int .i64 ns, .int .i64 nt], .agg #[.slice da' dn' dc', .slice fa' fn' fc', .slice la' ln' lc'], .slice ma mn mc, .int .i64 0]) := he
      obtain rfl : mn = 0 := by
        obtain ⟨a, c, e⟩ := seq_shape hms
        cases e
        rfl
      obtain rfl : dn' = D.length := by
        obtain ⟨a, c, e⟩ := seq_shape hw2.devs
        cases e
        rfl
      obtain rfl : fn' = 0 := by
        obtain ⟨a, c, e⟩ := seq_shape hw2.faults
        cases e
        rfl
      obtain rfl : ln' = T.length := by
        obtain ⟨a, c, e⟩ := seq_shape hw2.late
        cases e
        rfl
      go_upto_region 9 with fail
      rw [show w2.heap.size + 1 + 1 = w2.heap.size + 2 from rfl]
      have hbT : Below w2.heap.size w2 (((w2.alloc (.cells #[.int .u64 ni, .int .i64 ns, .int .i64 nt] 24)).alloc (.cells #[.slice da' D.length dc', .slice fa' 0 fc', .slice la' T.length lc'] 29)).alloc (.cells #[.slice da' D.length dc', .slice fa' 0 fc', .slice none 0 0] 29)) := by (repeat' (first | (with_reducible exact Below.refl _ _) | (with_reducible assumption) | (with_reducible refine below_run ?_ (by assumption)) | (with_reducible refine below_of_upd ?_ (by assumption) ?_) | (with_reducible refine below_drewN ?_ _) | (with_reducible refine Below.drew ?_) | (with_reducible refine below_seven ?_ ?_) | (with_reducible refine below_six ?_ ?_) | (with_reducible refine below_one ?_ ?_) | (with_reducible refine Below.alloc ?_ ?_ _) | (with_reducible refine below_after ?_ ?_ (by assumption)) | (show _ ≤ _; first | omega | (simp; done) | (simp; omega))))
      have t2 := (R21.out.run hb2).run hbT
      have t7 : RowAt (((w2.alloc (.cells #[.int .u64 ni, .int .i64 ns, .int .i64 nt] 24)).alloc (.cells #[.slice da' D.length dc', .slice fa' 0 fc', .slice la' T.length lc'] 29)).alloc (.cells #[.slice da' D.length dc', .slice fa' 0 fc', .slice none 0 0] 29)) w2.heap.size 24 #[.int .u64 ni, .int .i64 ns, .int .i64 nt] := ((RowAt.new _ _ _).alloc _).alloc _
      have t8 : RowAt (((w2.alloc (.cells #[.int .u64 ni, .int .i64 ns, .int .i64 nt] 24)).alloc (.cells #[.slice da' D.length dc', .slice fa' 0 fc', .slice la' T.length lc'] 29)).alloc (.cells #[.slice da' D.length dc', .slice fa' 0 fc', .slice none 0 0] 29)) (w2.heap.size + 1) 29 #[.slice da' D.length dc', .slice fa' 0 fc', .slice la' T.length lc'] := (RowAt.mk (by simp) rfl).alloc _
      have t9 : RowAt (((w2.alloc (.cells #[.int .u64 ni, .int .i64 ns, .int .i64 nt] 24)).alloc (.cells #[.slice da' D.length dc', .slice fa' 0 fc', .slice la' T.length lc'] 29)).alloc (.cells #[.slice da' D.length dc', .slice fa' 0 fc', .slice none 0 0] 29)) (w2.heap.size + 2) 29 #[.slice da' D.length dc', .slice fa' 0 fc', .slice none 0 0] := RowAt.mk (by simp) rfl
      have twr := (hw2.run hbT).at
      have hbw := below_run (below_run HB1.out hb2) hbT
      generalize ((w2.alloc (.cells #[.int .u64 ni, .int .i64 ns, .int .i64 nt] 24)).alloc (.cells #[.slice da' D.length dc', .slice fa' 0 fc', .slice la' T.length lc'] 29)).alloc (.cells #[.slice da' D.length dc', .slice fa' 0 fc', .slice none 0 0] 29) = X at t2 t7 t8 t9 twr hbT hbw ⊢
      generalize w2.heap.size = k at t7 t8 t9 ⊢
      have T2 := Lib.hid t2
      have T7 := Lib.hid t7
      have T9 := Lib.hid t9
      have HBX := Lib.hid hbw
      have HWX := Lib.hid twr
      clear x1 x2 x3 x4 x5 x6 y1 y2 y3 y4 y5 y6 z1 z2 z3 z4 z5 z6 hbT hbw hb2 hw2 hms R01 R11 R21 HB1 H1 CS1 twr
      obtain ⟨x1, x2, x3, x4, x5, x6⟩ := row_facts t2
      obtain ⟨y1, y2, y3, y4, y5, y6⟩ := row_facts t7
      obtain ⟨z1, z2, z3, z4, z5, z6⟩ := row_facts t8
      clear t2 t7 t8 t9
      go_wp2_with fail
      refine (CA1.out X da' fa' la' dc' fc' lc' HWX.out).mono ?_
      rintro e w3 ⟨⟨d1, f1, l1, j1, j2, j3, rfl, hw3⟩, hb3⟩
      go_upto_region 10 with fail
      rw [show w3.heap.size + 1 + 1 = w3.heap.size + 2 from rfl]
      have hbT : Below w3.heap.size w3 (((w3.alloc (.cells #[.int .u64 oi, .int .i64 os, .int .i64 ot] 24)).alloc (.cells #[.slice d1 G.length j1, .slice f1 gf.length j2, .slice l1 gt.length j3] 29)).alloc (.cells #[.int .i64 ak, .string ad, .int .i64 ar, .int .i64 at'] 53)) := by (repeat' (first | (with_reducible exact Below.refl _ _) | (with_reducible assumption) | (with_reducible refine below_run ?_ (by assumption)) | (with_reducible refine below_of_upd ?_ (by assumption) ?_) | (with_reducible refine below_drewN ?_ _) | (with_reducible refine Below.drew ?_) | (with_reducible refine below_seven ?_ ?_) | (with_reducible refine below_six ?_ ?_) | (with_reducible refine below_one ?_ ?_) | (with_reducible refine Below.alloc ?_ ?_ _) | (with_reducible refine below_after ?_ ?_ (by assumption)) | (show _ ≤ _; first | omega | (simp; done) | (simp; omega))))
      have t2 := (T2.out.run hb3).run hbT
      have t7 := (T7.out.run hb3).run hbT
      have t9 := (T9.out.run hb3).run hbT
      have s8 : RowAt (((w3.alloc (.cells #[.int .u64 oi, .int .i64 os, .int .i64 ot] 24)).alloc (.cells #[.slice d1 G.length j1, .slice f1 gf.length j2, .slice l1 gt.length j3] 29)).alloc (.cells #[.int .i64 ak, .string ad, .int .i64 ar, .int .i64 at'] 53)) (w3.heap.size + 1) 29 #[.slice d1 G.length j1, .slice f1 gf.length j2, .slice l1 gt.length j3] := (RowAt.mk (by simp) rfl).alloc _
      have s9 : RowAt (((w3.alloc (.cells #[.int .u64 oi, .int .i64 os, .int .i64 ot] 24)).alloc (.cells #[.slice d1 G.length j1, .slice f1 gf.length j2, .slice l1 gt.length j3] 29)).alloc (.cells #[.int .i64 ak, .string ad, .int .i64 ar, .int .i64 at'] 53)) (w3.heap.size + 2) 53 #[.int .i64 ak, .string ad, .int .i64 ar, .int .i64 at'] := RowAt.mk (by simp) rfl
      have swr := hw3.run hbT
      have twr := (HWX.out.run hb3).run hbT
      have hbw := below_run (below_run HBX.out hb3) hbT
      generalize ((w3.alloc (.cells #[.int .u64 oi, .int .i64 os, .int .i64 ot] 24)).alloc (.cells #[.slice d1 G.length j1, .slice f1 gf.length j2, .slice l1 gt.length j3] 29)).alloc (.cells #[.int .i64 ak, .string ad, .int .i64 ar, .int .i64 at'] 53) = Y at t2 t7 t9 s8 s9 swr twr hbT hbw ⊢
      generalize w3.heap.size = k3 at s8 s9 ⊢
      have S8 := Lib.hid s8
      have S9 := Lib.hid s9
      have HSW := Lib.hid swr
      have HBY := Lib.hid hbw
      have HWY := Lib.hid (show WireAt Y (.slice da' D.length dc') (.slice fa' 0 fc') (.slice none 0 0) ⟨D, [], []⟩ from ⟨twr.devs, twr.room, twr.faults, .inl ⟨rfl, _, _, rfl⟩⟩)
      clear x1 x2 x3 x4 x5 x6 y1 y2 y3 y4 y5 y6 z1 z2 z3 z4 z5 z6 hbT hbw hb3 hw3 T2 T7 T9 HBX HWX CA1 s8 s9 swr twr
      obtain ⟨x1, x2, x3, x4, x5, x6⟩ := row_facts t2
      obtain ⟨y1, y2, y3, y4, y5, y6⟩ := row_facts t7
      obtain ⟨z1, z2, z3, z4, z5, z6⟩ := row_facts t9
      clear t2 t7 t9
      go_wp2_with fail
      refine (CA2.out Y da' fa' none dc' fc' 0 HWY.out).mono ?_
      rintro e w4 ⟨⟨d2, f2, l2, i1, i2, i3, rfl, hw4⟩, hb4⟩
      go_upto_region 11 with fail
      rw [show w4.heap.size + 1 + 1 = w4.heap.size + 2 from rfl]
      have hbT : Below w4.heap.size w4 (((w4.alloc (.cells #[.int .u64 oi, .int .i64 os, .int .i64 ot] 24)).alloc (.cells #[.slice d2 G.length i1, .slice f2 gf.length i2, .slice l2 gt.length i3] 29)).alloc (.cells #[.int .i64 ak, .string ad, .int .i64 ar, .int .i64 at'] 53)) := by (repeat' (first | (with_reducible exact Below.refl _ _) | (with_reducible assumption) | (with_reducible refine below_run ?_ (by assumption)) | (with_reducible refine below_of_upd ?_ (by assumption) ?_) | (with_reducible refine below_drewN ?_ _) | (with_reducible refine Below.drew ?_) | (with_reducible refine below_seven ?_ ?_) | (with_reducible refine below_six ?_ ?_) | (with_reducible refine below_one ?_ ?_) | (with_reducible refine Below.alloc ?_ ?_ _) | (with_reducible refine below_after ?_ ?_ (by assumption)) | (show _ ≤ _; first | omega | (simp; done) | (simp; omega))))
      have s8 := (S8.out.run hb4).run hbT
      have s9 := (S9.out.run hb4).run hbT
      have r8 : RowAt (((w4.alloc (.cells #[.int .u64 oi, .int .i64 os, .int .i64 ot] 24)).alloc (.cells #[.slice d2 G.length i1, .slice f2 gf.length i2, .slice l2 gt.length i3] 29)).alloc (.cells #[.int .i64 ak, .string ad, .int .i64 ar, .int .i64 at'] 53)) (w4.heap.size + 1) 29 #[.slice d2 G.length i1, .slice f2 gf.length i2, .slice l2 gt.length i3] := (RowAt.mk (by simp) rfl).alloc _
      have r9 : RowAt (((w4.alloc (.cells #[.int .u64 oi, .int .i64 os, .int .i64 ot] 24)).alloc (.cells #[.slice d2 G.length i1, .slice f2 gf.length i2, .slice l2 gt.length i3] 29)).alloc (.cells #[.int .i64 ak, .string ad, .int .i64 ar, .int .i64 at'] 53)) (w4.heap.size + 2) 53 #[.int .i64 ak, .string ad, .int .i64 ar, .int .i64 at'] := RowAt.mk (by simp) rfl
      have swr := (HSW.out.run hb4).run hbT
      have rwr := hw4.run hbT
      have hbw := below_run (below_run HBY.out hb4) hbT
      generalize ((w4.alloc (.cells #[.int .u64 oi, .int .i64 os, .int .i64 ot] 24)).alloc (.cells #[.slice d2 G.length i1, .slice f2 gf.length i2, .slice l2 gt.length i3] 29)).alloc (.cells #[.int .i64 ak, .string ad, .int .i64 ar, .int .i64 at'] 53) = Z at s8 s9 r8 r9 swr rwr hbT hbw ⊢
      generalize w4.heap.size = k4 at r8 r9 ⊢
      have HSZ := Lib.hid swr.at
      have HRZ := Lib.hid rwr.at
      have HBZ := Lib.hid hbw
      have hkeep : ∀ W', Below Z.heap.size Z W' → (W'.cell? ⟨k3 + 1, 0, none⟩ = some (.slice d1 G.length j1) ∧ W'.cell? ⟨k3 + 1, 1, none⟩ = some (.slice f1 gf.length j2) ∧ W'.cell? ⟨k3 + 1, 2, none⟩ = some (.slice l1 gt.length j3) ∧ W'.cell? ⟨k3 + 2, 0, none⟩ = some (.int .i64 ak) ∧ W'.cell? ⟨k3 + 2, 1, none⟩ = some (.string ad) ∧ W'.cell? ⟨k3 + 2, 2, none⟩ = some (.int .i64 ar) ∧ W'.cell? ⟨k3 + 2, 3, none⟩ = some (.int .i64 at') ∧ W'.cell? ⟨k4 + 1, 0, none⟩ = some (.slice d2 G.length i1) ∧ W'.cell? ⟨k4 + 1, 1, none⟩ = some (.slice f2 gf.length i2) ∧ W'.cell? ⟨k4 + 1, 2, none⟩ = some (.slice l2 gt.length i3) ∧ W'.cell? ⟨k4 + 2, 0, none⟩ = some (.int .i64 ak) ∧ W'.cell? ⟨k4 + 2, 1, none⟩ = some (.string ad) ∧ W'.cell? ⟨k4 + 2, 2, none⟩ = some (.int .i64 ar) ∧ W'.cell? ⟨k4 + 2, 3, none⟩ = some (.int .i64 at')) := by
        intro W' hb
        have a1 := s8.run hb
        have a2 := s9.run hb
        have a3 := r8.run hb
        have a4 := r9.run hb
        exact ⟨cell_fact a1 0, cell_fact a1 1, cell_fact a1 2, cell_fact a2 0, cell_fact a2 1, cell_fact a2 2, cell_fact a2 3, cell_fact a3 0, cell_fact a3 1, cell_fact a3 2, cell_fact a4 0, cell_fact a4 1, cell_fact a4 2, cell_fact a4 3⟩
      have HK := Lib.hid hkeep
      have hbd : Below Z.heap.size Z Z.drew := Below.drew (Below.refl _ _)
      obtain ⟨m0, m1, m2, m3, m4, m5, m6, m7, m8, m9, m10, m11, m12, m13⟩ := hkeep Z (Below.refl _ _)
      have CO1 := Lib.hid (fun W' (hb : Below Z.heap.size Z W') => wof_any d1 f1 l1 G.length j1 gf.length j2 gt.length j3 ⟨G, gf, gt⟩ W' (HSZ.out.run hb) HGZ.out)
      have CO2 := Lib.hid (fun W' (hb : Below Z.heap.size Z W') => wof_any d2 f2 l2 G.length i1 gf.length i2 gt.length i3 ⟨G, gf, gt⟩ W' (HRZ.out.run hb) HGZ.out)
      have CW := Lib.hid (fun W' (hb : Below Z.heap.size Z W') => lift_below hb (awake49_any W'))
      have z9 : (E == E) = true := by simp
      clear hkeep s8 s9 r8 r9 swr rwr hbT hbw x1 x2 x3 x4 x5 x6 y1 y2 y3 y4 y5 y6 z1 z2 z3 z4 z5 z6 hb4 hw4 S8 S9 HSW HBY HWY CA2
      go_region_held3 (fun W' => W'.cell? ⟨k3 + 1, 0, none⟩ = some (.slice d1 G.length j1) ∧ W'.cell? ⟨k3 + 1, 1, none⟩ = some (.slice f1 gf.length j2) ∧ W'.cell? ⟨k3 + 1, 2, none⟩ = some (.slice l1 gt.length j3) ∧ W'.cell? ⟨k3 + 2, 0, none⟩ = some (.int .i64 ak) ∧ W'.cell? ⟨k3 + 2, 1, none⟩ = some (.string ad) ∧ W'.cell? ⟨k3 + 2, 2, none⟩ = some (.int .i64 ar) ∧ W'.cell? ⟨k3 + 2, 3, none⟩ = some (.int .i64 at') ∧ W'.cell? ⟨k4 + 1, 0, none⟩ = some (.slice d2 G.length i1) ∧ W'.cell? ⟨k4 + 1, 1, none⟩ = some (.slice f2 gf.length i2) ∧ W'.cell? ⟨k4 + 1, 2, none⟩ = some (.slice l2 gt.length i3) ∧ W'.cell? ⟨k4 + 2, 0, none⟩ = some (.int .i64 ak) ∧ W'.cell? ⟨k4 + 2, 1, none⟩ = some (.string ad) ∧ W'.cell? ⟨k4 + 2, 2, none⟩ = some (.int .i64 ar) ∧ W'.cell? ⟨k4 + 2, 3, none⟩ = some (.int .i64 at'))
        (first | go_keep | exact HK.out _ (by assumption))
        (first
          | (go_at_call 14; with_reducible refine (CO1.out _ (by assumption)).mono ?_; rintro e u1 ⟨a1, c1, rfl, hwa, hb1⟩; have hc1 : Below Z.heap.size Z u1 := below_run (by assumption) hb1; clear hb1)
          | (go_at_call 14; with_reducible refine (CO2.out _ (by assumption)).mono ?_; rintro e u2 ⟨a2, c2, rfl, hwb, hb2⟩; have hwa2 := hwa.run hb2; have hc2 : Below Z.heap.size Z u2 := below_run (by assumption) hb2; clear hb2)
          | (go_at_call 25; refine (rsame_any _ _ _ _ _ _ _ _ _ _ _ _ _ _ _ _ _ _ ⟨G, gf, gt⟩ _ hwa2.r hwb.r).mono ?_; rintro e u3 ⟨rfl, hb3⟩; have hc3 : Below Z.heap.size Z u3 := below_run (by assumption) hb3; clear hb3)
          | (go_at_call 15; refine (CW.out _ (by assumption)).mono ?_; rintro e u4 ⟨rfl, hc4⟩))
      all_goals go_wp2
      all_goals go_ret
      all_goals exact ⟨rfl, below_run HBZ.out hc4⟩
    · have hU : sendU ⟨xi, xs, xt⟩ ⟨l, [4], []⟩ ⟨dst1, kind1, par1, dat1⟩ = (zeroMgr, zeroWre, []) := by rw [sendU, if_neg (by rw [hN]; exact hz)]
      rw [hU] at CS
      have e9 : (N != 0) = true := by simpa using hz
      have CS1 := Lib.hid CS
      clear CS hU hN hz
      go_wp2_with fail
      refine CS1.out.mono ?_
      rintro e w2 ⟨da', fa', la', ma, dn', dc', fn', fc', ln', lc', mn, mc, he, -, -, hb2⟩
      obtain rfl : e = .returned (.tuple #[.agg #[.int .u64 0, .int .i64 0, .int .i64 0], .agg #[.slice da' dn' dc', .slice fa' fn' fc', .slice la' ln' lc'], .slice ma mn mc, .int .i64 N]) := he
      have HB2 := Lib.hid (below_run HB1.out hb2)
      clear hb2
      go_wp2_with fail
      refine (awake49_any _).mono ?_
      rintro e w3 ⟨rfl, hb3⟩
      go_wp2
      go_ret
      exact ⟨rfl, below_run (((HB2.out.alloc HB2.out.size _).alloc (HB2.out.alloc HB2.out.size _).size _)) hb3⟩
end Go.Proofs.YtpjmhhfpjhmiiaaGreat
