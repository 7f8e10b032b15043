/-
  The walk of the law ManagerInsists.
-/
import Derived.Test.YtpjmhhfpjhmiiaaGreatQt
namespace Go.Proofs.YtpjmhhfpjhmiiaaGreat
open Go.RowKit Go.Shelf

theorem field_bus (a : Option Addr) (n c : Nat) (u v : Value) (W : World) : (Instr.field 35 (.agg #[.slice a n c, u, v]) 0).run Tryz.prog W = .ok (.slice a n c) W := by kernel_rfl

attribute [local go_sem] field_bus

set_option maxHeartbeats 16000000 in
set_option maxRecDepth 100000 in
theorem law_insists (x : Mgr) (da fa la : Option Addr) (dn dc fn fc ln lc : Nat) (y : Wre) (dst kind par : Int) (dat : ByteArray) (w : World) (h : WireAt w (.slice da dn dc) (.slice fa fn fc) (.slice la ln lc) y) (hr : y.devs.length * 56 ≤ 140737488351232) :
    Calls Tryz.prog 5 #[.agg #[.int .u64 x.id, .int .i64 x.seq, .int .i64 x.tries, .slice da dn dc, .slice fa fn fc, .slice la ln lc], .agg #[.int .u64 dst, .int .i64 kind, .int .i64 par, .string dat]] w fun e w' => e = .returned (.bool true) ∧ Below w.heap.size w w' := by
  obtain ⟨xi, xs, xt⟩ := x
  obtain ⟨l, f, t⟩ := y
  dsimp only at hr
  obtain rfl : dn = l.length := by
    obtain ⟨a, c, e⟩ := shape_of h.devs
    cases e
    rfl
  obtain rfl : fn = f.length := by
    obtain ⟨a, c, e⟩ := shape_of h.faults
    cases e
    rfl
  show Calls Tryz.prog 5 #[.agg #[.int .u64 xi, .int .i64 xs, .int .i64 xt, .slice da l.length dc, .slice fa f.length fc, .slice la ln lc], _] w _
  obtain ⟨W, hW⟩ : ∃ W, (w.alloc (.cells #[.int .u64 xi, .int .i64 xs, .int .i64 xt, .slice da l.length dc, .slice fa f.length fc, .slice la ln lc] 31)).alloc (.cells #[.int .u64 dst, .int .i64 kind, .int .i64 par, .string dat] 50) = W := ⟨_, rfl⟩
  have hbW : Below w.heap.size w W := by rw [← hW]; (repeat' (first | (with_reducible exact Below.refl _ _) | (with_reducible assumption) | (with_reducible refine below_run ?_ (by assumption)) | (with_reducible refine below_of_upd ?_ (by assumption) ?_) | (with_reducible refine below_drewN ?_ _) | (with_reducible refine Below.drew ?_) | (with_reducible refine below_seven ?_ ?_) | (with_reducible refine below_six ?_ ?_) | (with_reducible refine below_one ?_ ?_) | (with_reducible refine Below.alloc ?_ ?_ _) | (with_reducible refine below_after ?_ ?_ (by assumption)) | (show _ ≤ _; first | omega | (simp; done) | (simp; omega))))
  have r0 : RowAt W w.heap.size 31 #[.int .u64 xi, .int .i64 xs, .int .i64 xt, .slice da l.length dc, .slice fa f.length fc, .slice la ln lc] := by rw [← hW]; exact (RowAt.new _ _ _).alloc _
  have r1 : RowAt W (w.heap.size + 1) 50 #[.int .u64 dst, .int .i64 kind, .int .i64 par, .string dat] := by rw [← hW]; exact RowAt.mk (by simp) rfl
  obtain ⟨x1, x2, x3, x4, x5, x6⟩ := row_facts r0
  have g5 := cell_fact r0 5
  simp only [List.getElem?_toArray] at g5
  have q0 : RowAt (W.setCell ⟨w.heap.size, 5, none⟩ (.slice none 0 0)) w.heap.size 31 #[.int .u64 xi, .int .i64 xs, .int .i64 xt, .slice da l.length dc, .slice fa f.length fc, .slice none 0 0] := RowAt.set r0 rfl
  have q1 := r1.far1 (u := .slice none 0 0) (i := 5) (g := w.heap.size) (by omega)
  have hbQ : Below w.heap.size w (W.setCell ⟨w.heap.size, 5, none⟩ (.slice none 0 0)) := below_one hbW (Nat.le_refl _)
  obtain ⟨Q, hQ⟩ : ∃ Q, W.setCell ⟨w.heap.size, 5, none⟩ (.slice none 0 0) = Q := ⟨_, rfl⟩
  rw [hQ] at q0 q1 hbQ
  have hwq := h.run hbQ
  have HWQ := Lib.hid (show WireAt Q (.slice da l.length dc) (.slice fa f.length fc) (.slice none 0 0) ⟨l, f, []⟩ from ⟨hwq.devs, hwq.room, hwq.faults, .inl ⟨rfl, _, _, rfl⟩⟩)
  have R0 := Lib.hid q0
  have R1 := Lib.hid q1
  have HB := Lib.hid hbQ
  obtain ⟨y1, y2, y3, y4, y5, y6⟩ := row_facts q0
  obtain ⟨z1, z2, z3, z4, z5, z6⟩ := row_facts q1
  obtain ⟨q, hq⟩ : ∃ q, rightW ⟨xi, xs, xt⟩ ⟨l, f, []⟩ = q := ⟨_, rfl⟩
  have CR := Lib.hid (wright_any q xi xs xt da fa none l.length dc f.length fc 0 0 ⟨l, f, []⟩ Q HWQ.out hr hq)
  have HQ := Lib.hid hq
  have HRZ := Lib.hid hr
  obtain ⟨m, hm⟩ : ∃ m, chk ⟨dst, xi, xs, kind, par, dat⟩ = m := ⟨_, rfl⟩
  have CK := Lib.hid (fun W => refchk_is m dst xi xs kind par dat W hm)
  have HM := Lib.hid hm
  have CMS := Lib.hid (fun W => rmof_any xi xs xt dst kind par dat W)
  have hl2 : (l.length : Int) ≤ 140737488351232 := by omega
  clear h r0 r1 hbW q0 q1 hbQ hwq hq hr hm
  go_enter Tryz.func5, Tryz.ntmps5
  go_upto_region 2 with fail
  go_wp2_with fail
  refine (CR.out).mono ?_
  rintro e w1 ⟨rfl, hb1⟩
  have HB1 := Lib.hid (below_run HB.out hb1)
  have H1 := Lib.hid (HWQ.out.run hb1)
  have r0 := R0.out.run hb1
  have r1 := R1.out.run hb1
  have R01 := Lib.hid r0
  have R11 := Lib.hid r1
  clear hb1 x1 x2 x3 x4 x5 x6 y1 y2 y3 y4 y5 y6 z1 z2 z3 z4 z5 z6 g5 R0 R1 HB HWQ CR hQ hW
  obtain ⟨x1, x2, x3, x4, x5, x6⟩ := row_facts r0
  obtain ⟨y1, y2, y3, y4, y5, y6⟩ := row_facts r1
  clear r0 r1
  have hkk : (kind = 4) ∨ (kind ≠ 4 ∧ kind = 5) ∨ (kind ≠ 4 ∧ kind ≠ 5) := by omega
  have hways : q = false ∨ (q = true ∧ xt ≤ (f.length : Int)) ∨ (q = true ∧ ¬ xt ≤ (f.length : Int) ∧ (300 : Int) < (dat.size : Int)) ∨ (q = true ∧ ¬ xt ≤ (f.length : Int) ∧ ¬ (300 : Int) < (dat.size : Int)) := by
    cases q
    · exact .inl rfl
    · simp only [reduceCtorEq, false_or, true_and]
      omega
  have HW := Lib.hid hways
  have HKK := Lib.hid hkk
  clear hways hkk
  rcases HW.out with rfl | ⟨rfl, g1⟩ | ⟨rfl, g1, g2⟩ | ⟨rfl, g1, g2⟩
  · skip
    go_wp2_with fail
    refine (awake49_any _).mono ?_
    rintro e w9 ⟨rfl, hb9⟩
    go_wp2
    go_ret
    exact ⟨rfl, below_run HB1.out hb9⟩
  · skip
    go_wp2_with fail
    refine (awake49_any _).mono ?_
    rintro e w9 ⟨rfl, hb9⟩
    go_wp2
    go_ret
    exact ⟨rfl, below_run HB1.out hb9⟩
  · skip
    go_wp2_with fail
    refine (awake49_any _).mono ?_
    rintro e w9 ⟨rfl, hb9⟩
    go_wp2
    go_ret
    exact ⟨rfl, below_run HB1.out hb9⟩
  · rcases HKK.out with k4 | ⟨k4, k5⟩ | ⟨k4, k5⟩
    rotate_left 2
    · have e4 : (kind != 4) = true := by simpa using k4
      have e5 : (kind != 5) = true := by simpa using k5
      clear k4 k5
      go_wp2_with fail
      refine (awake49_any _).mono ?_
      rintro e w9 ⟨rfl, hb9⟩
      go_wp2
      go_ret
      exact ⟨rfl, below_run HB1.out hb9⟩
    all_goals
      have HK4 := Lib.hid (show kind = 4 ∨ kind = 5 by omega)
      first
        | (have e4 : (kind != 4) = false := (by simpa using k4); clear k4)
        | (have e4 : (kind != 4) = true := (by simpa using k4); have e5 : (kind != 5) = false := (by simpa using k5); clear k4 k5)
      by_cases p1 : par = 4097
      · have e6 : (par == 4097) = true := by simpa using p1
        clear p1
        go_wp2_with fail
        refine (awake49_any _).mono ?_
        rintro e w9 ⟨rfl, hb9⟩
        go_wp2
        go_ret
        exact ⟨rfl, below_run HB1.out hb9⟩
      · have e6 : (par == 4097) = false := by simpa using p1
        have HP1 := Lib.hid p1
        clear p1
        go_wp2_with fail
        refine (CMS.out _).mono ?_
        rintro e w2 ⟨rfl, hb2⟩
        go_wp2_with fail
        refine (CK.out _).mono ?_
        rintro e w3 ⟨rfl, hb3⟩
        have hb23 := below_run hb2 hb3
        have HB3 := Lib.hid (below_run HB1.out hb23)
        have H3 := Lib.hid (H1.out.run hb23)
        have r0 := R01.out.run hb23
        have r1 := R11.out.run hb23
        have R03 := Lib.hid r0
        have R13 := Lib.hid r1
        clear hb2 hb3 hb23 x1 x2 x3 x4 x5 x6 y1 y2 y3 y4 y5 y6 R01 R11 HB1 H1 CMS CK
        obtain ⟨x1, x2, x3, x4, x5, x6⟩ := row_facts r0
        obtain ⟨y1, y2, y3, y4, y5, y6⟩ := row_facts r1
        clear r0 r1
        by_cases p2 : m = 0
        · subst p2
          by_cases p3 : dst = 281474976710655
          · have e7 : (dst == 281474976710655) = true := by simpa using p3
            clear p3
            go_wp2_with fail
            refine (awake49_any _).mono ?_
            rintro e w9 ⟨rfl, hb9⟩
            go_wp2
            go_ret
            exact ⟨rfl, below_run HB3.out hb9⟩
          · have e7 : (dst == 281474976710655) = false := by simpa using p3
            have hqq := HQ.out
            unfold rightW at hqq
            simp only [Bool.and_eq_true, decide_eq_true_eq] at hqq
            obtain ⟨-, hy0, hx0⟩ := hqq
            have hfl : (f.length : Int) ≤ 4096 := by
              have h9 : f.length ≤ 4096 := (wire_parts hy0).2.1
              omega
            obtain ⟨hE1, hE2, hdv, hlen, hoth, hres⟩ := insist_law (r := ⟨dst, kind, par, dat⟩) hx0 hy0 (by show (f.length : Int) < xt; omega) (HK4.out.elim .inl fun e => .inr ⟨e, HP1.out⟩) HM.out p3
            obtain ⟨⟨⟨oi, os, ot⟩, ⟨G, gf, gt⟩, ⟨ak, ad, ar, at'⟩⟩, hp⟩ : ∃ p, askM ⟨xi, xs, xt⟩ ⟨l, f, []⟩ ⟨dst, kind, par, dat⟩ = p := ⟨_, rfl⟩
            obtain ⟨⟨⟨pi, ps, pt⟩, ⟨G', hf', ht'⟩, ⟨bk, bd, br, bt⟩⟩, hp'⟩ : ∃ p, askM ⟨xi, xs, xt⟩ ⟨l, [], []⟩ ⟨dst, kind, par, dat⟩ = p := ⟨_, rfl⟩
            rw [hp, hp'] at hdv hres
            rw [hp] at hlen hoth
            dsimp only at hdv hlen hoth hres
            subst hdv
            have CA1 := Lib.hid (fun (V : World) hv => ask_lift (V := V) (W := V) (da := da) (fa := fa) (la := none) (dn := l.length) (dc := dc) (fn := f.length) (fc := fc) (ln := 0) (lc := 0) ((askU_of hE1).trans hp) hE1 hv (Below.refl _ _))
            have CA2 := Lib.hid (fun (V : World) hv => ask_lift (V := V) (W := V) (da := da) (fa := none) (la := none) (dn := l.length) (dc := dc) (fn := 0) (fc := 0) (ln := 0) (lc := 0) ((askU_of hE2).trans hp') hE2 hv (Below.refl _ _))
            have HLN := Lib.hid hlen
            simp only [hlen] at CA1 CA2
            have HOT := Lib.hid hoth
            have HRS := Lib.hid hres
            have HGZ := Lib.hid (show G.length * 56 ≤ 140737488351232 by have := HRZ.out; omega)
            clear hE1 hE2 hp hp' hlen hoth hres hx0 hy0 p3 HQ HM HK4 HP1 HRZ
            go_wp2_with fail
            clear g1 g2
            refine (CA1.out _ H3.out).mono ?_
            rintro e w4 ⟨⟨d1, f1, l1, j1, j2, j3, rfl, hw4⟩, hb4⟩
            go_upto_region 5 with fail
            rw [show w4.heap.size + 1 + 1 = w4.heap.size + 2 from rfl]
            have hbT : Below w4.heap.size w4 (((w4.alloc (.cells #[.int .u64 oi, .int .i64 os, .int .i64 ot] 24)).alloc (.cells #[.slice d1 l.length j1, .slice f1 gf.length j2, .slice l1 gt.length j3] 29)).alloc (.cells #[.int .i64 ak, .string ad, .int .i64 ar, .int .i64 at'] 53)) := by (repeat' (first | (with_reducible exact Below.refl _ _) | (with_reducible assumption) | (with_reducible refine below_run ?_ (by assumption)) | (with_reducible refine below_of_upd ?_ (by assumption) ?_) | (with_reducible refine below_drewN ?_ _) | (with_reducible refine Below.drew ?_) | (with_reducible refine below_seven ?_ ?_) | (with_reducible refine below_six ?_ ?_) | (with_reducible refine below_one ?_ ?_) | (with_reducible refine Below.alloc ?_ ?_ _) | (with_reducible refine below_after ?_ ?_ (by assumption)) | (show _ ≤ _; first | omega | (simp; done) | (simp; omega))))
            have t0 := (R03.out.run hb4).run hbT
            have t1 := (R13.out.run hb4).run hbT
            have t8 : RowAt (((w4.alloc (.cells #[.int .u64 oi, .int .i64 os, .int .i64 ot] 24)).alloc (.cells #[.slice d1 l.length j1, .slice f1 gf.length j2, .slice l1 gt.length j3] 29)).alloc (.cells #[.int .i64 ak, .string ad, .int .i64 ar, .int .i64 at'] 53)) (w4.heap.size + 1) 29 #[.slice d1 l.length j1, .slice f1 gf.length j2, .slice l1 gt.length j3] := (RowAt.mk (by simp) rfl).alloc _
            have t9 : RowAt (((w4.alloc (.cells #[.int .u64 oi, .int .i64 os, .int .i64 ot] 24)).alloc (.cells #[.slice d1 l.length j1, .slice f1 gf.length j2, .slice l1 gt.length j3] 29)).alloc (.cells #[.int .i64 ak, .string ad, .int .i64 ar, .int .i64 at'] 53)) (w4.heap.size + 2) 53 #[.int .i64 ak, .string ad, .int .i64 ar, .int .i64 at'] := RowAt.mk (by simp) rfl
            have twr := (hw4.run hbT).at
            have swr := (H3.out.run hb4).run hbT
            have hbw := below_run (below_run HB3.out hb4) hbT
            generalize ((w4.alloc (.cells #[.int .u64 oi, .int .i64 os, .int .i64 ot] 24)).alloc (.cells #[.slice d1 l.length j1, .slice f1 gf.length j2, .slice l1 gt.length j3] 29)).alloc (.cells #[.int .i64 ak, .string ad, .int .i64 ar, .int .i64 at'] 53) = Z0 at t0 t1 t8 t9 twr swr hbT hbw ⊢
            generalize w4.heap.size = k at t8 t9 ⊢
            have HTW0 := Lib.hid twr
            have HSW0 := Lib.hid swr
            have HBZ0 := Lib.hid hbw
            have T00 := Lib.hid t0
            have T10 := Lib.hid t1
            have T80 := Lib.hid t8
            have T90 := Lib.hid t9
            clear x1 x2 x3 x4 x5 x6 y1 y2 y3 y4 y5 y6 hbT hbw hb4 hw4 R03 R13 H3 HB3 CA1 twr swr
            obtain ⟨x1, x2, x3, x4, x5, x6⟩ := row_facts t0
            obtain ⟨y1, y2, y3, y4, y5, y6⟩ := row_facts t1
            clear t0 t1 t8 t9
            go_upto_region 7 with fail
            have hbT : Below Z0.heap.size Z0 (Z0.alloc (.cells #[.slice da l.length dc, .slice none 0 0, .slice none 0 0] 29)) := by (repeat' (first | (with_reducible exact Below.refl _ _) | (with_reducible assumption) | (with_reducible refine below_run ?_ (by assumption)) | (with_reducible refine below_of_upd ?_ (by assumption) ?_) | (with_reducible refine below_drewN ?_ _) | (with_reducible refine Below.drew ?_) | (with_reducible refine below_seven ?_ ?_) | (with_reducible refine below_six ?_ ?_) | (with_reducible refine below_one ?_ ?_) | (with_reducible refine Below.alloc ?_ ?_ _) | (with_reducible refine below_after ?_ ?_ (by assumption)) | (show _ ≤ _; first | omega | (simp; done) | (simp; omega))))
            have t0 := T00.out.run hbT
            have t1 := T10.out.run hbT
            have t8 := T80.out.run hbT
            have t9 := T90.out.run hbT
            have t10 : RowAt (Z0.alloc (.cells #[.slice da l.length dc, .slice none 0 0, .slice none 0 0] 29)) Z0.heap.size 29 #[.slice da l.length dc, .slice none 0 0, .slice none 0 0] := RowAt.mk (by simp) rfl
            have twr := HTW0.out.run hbT
            have swr := HSW0.out.run hbT
            have hbw := below_run HBZ0.out hbT
            generalize Z0.alloc (.cells #[.slice da l.length dc, .slice none 0 0, .slice none 0 0] 29) = Z at t0 t1 t8 t9 t10 twr swr hbT hbw ⊢
            generalize Z0.heap.size = k0 at t10 ⊢
            have HTW := Lib.hid twr
            have HSW := Lib.hid (show WireAt Z (.slice da l.length dc) (.slice none 0 0) (.slice none 0 0) ⟨l, [], []⟩ from ⟨swr.devs, swr.room, .inl ⟨rfl, _, _, rfl⟩, .inl ⟨rfl, _, _, rfl⟩⟩)
            have HBZ := Lib.hid hbw
            have T0 := Lib.hid t0
            have T1 := Lib.hid t1
            have T8 := Lib.hid t8
            have T9 := Lib.hid t9
            clear x1 x2 x3 x4 x5 x6 y1 y2 y3 y4 y5 y6 hbT hbw twr swr T00 T10 T80 T90 HTW0 HSW0 HBZ0
            obtain ⟨x1, x2, x3, x4, x5, x6⟩ := row_facts t0
            obtain ⟨y1, y2, y3, y4, y5, y6⟩ := row_facts t1
            obtain ⟨z1, z2, z3, z4, z5, z6⟩ := row_facts t10
            clear t0 t1 t8 t9 t10
            go_wp2_with fail
            refine (CA2.out _ HSW.out).mono ?_
            rintro e w5 ⟨⟨d2, f2, l2, i1, i2, i3, rfl, hw5⟩, hb5⟩
            go_upto_region 8 with fail
            rw [show w5.heap.size + 1 + 1 = w5.heap.size + 2 from rfl]
            have hbT : Below w5.heap.size w5 (((w5.alloc (.cells #[.int .u64 pi, .int .i64 ps, .int .i64 pt] 24)).alloc (.cells #[.slice d2 l.length i1, .slice f2 hf'.length i2, .slice l2 ht'.length i3] 29)).alloc (.cells #[.int .i64 bk, .string bd, .int .i64 br, .int .i64 bt] 53)) := by (repeat' (first | (with_reducible exact Below.refl _ _) | (with_reducible assumption) | (with_reducible refine below_run ?_ (by assumption)) | (with_reducible refine below_of_upd ?_ (by assumption) ?_) | (with_reducible refine below_drewN ?_ _) | (with_reducible refine Below.drew ?_) | (with_reducible refine below_seven ?_ ?_) | (with_reducible refine below_six ?_ ?_) | (with_reducible refine below_one ?_ ?_) | (with_reducible refine Below.alloc ?_ ?_ _) | (with_reducible refine below_after ?_ ?_ (by assumption)) | (show _ ≤ _; first | omega | (simp; done) | (simp; omega))))
            have t0 := (T0.out.run hb5).run hbT
            have t1 := (T1.out.run hb5).run hbT
            have t8 := (T8.out.run hb5).run hbT
            have t9 := (T9.out.run hb5).run hbT
            have s8 : RowAt (((w5.alloc (.cells #[.int .u64 pi, .int .i64 ps, .int .i64 pt] 24)).alloc (.cells #[.slice d2 l.length i1, .slice f2 hf'.length i2, .slice l2 ht'.length i3] 29)).alloc (.cells #[.int .i64 bk, .string bd, .int .i64 br, .int .i64 bt] 53)) (w5.heap.size + 1) 29 #[.slice d2 l.length i1, .slice f2 hf'.length i2, .slice l2 ht'.length i3] := (RowAt.mk (by simp) rfl).alloc _
            have s9 : RowAt (((w5.alloc (.cells #[.int .u64 pi, .int .i64 ps, .int .i64 pt] 24)).alloc (.cells #[.slice d2 l.length i1, .slice f2 hf'.length i2, .slice l2 ht'.length i3] 29)).alloc (.cells #[.int .i64 bk, .string bd, .int .i64 br, .int .i64 bt] 53)) (w5.heap.size + 2) 53 #[.int .i64 bk, .string bd, .int .i64 br, .int .i64 bt] := RowAt.mk (by simp) rfl
            have twr := (HTW.out.run hb5).run hbT
            have swr := (hw5.run hbT).at
            have dwr := (HSW.out.run hb5).run hbT
            have hbw := below_run (below_run HBZ.out hb5) hbT
            generalize ((w5.alloc (.cells #[.int .u64 pi, .int .i64 ps, .int .i64 pt] 24)).alloc (.cells #[.slice d2 l.length i1, .slice f2 hf'.length i2, .slice l2 ht'.length i3] 29)).alloc (.cells #[.int .i64 bk, .string bd, .int .i64 br, .int .i64 bt] 53) = Y at t0 t1 t8 t9 s8 s9 twr swr dwr hbT hbw ⊢
            generalize w5.heap.size = q at s8 s9 ⊢
            have hkeep : ∀ W', Below Y.heap.size Y W' → (W'.cell? ⟨w.heap.size, 0, none⟩ = some (.int .u64 xi) ∧ W'.cell? ⟨w.heap.size, 1, none⟩ = some (.int .i64 xs) ∧ W'.cell? ⟨w.heap.size, 2, none⟩ = some (.int .i64 xt) ∧ W'.cell? ⟨w.heap.size, 3, none⟩ = some (.slice da l.length dc) ∧ W'.cell? ⟨w.heap.size, 4, none⟩ = some (.slice fa f.length fc) ∧ W'.cell? ⟨w.heap.size, 5, none⟩ = some (.slice none 0 0) ∧ W'.cell? ⟨k + 1, 0, none⟩ = some (.slice d1 l.length j1) ∧ W'.cell? ⟨k + 1, 1, none⟩ = some (.slice f1 gf.length j2) ∧ W'.cell? ⟨k + 1, 2, none⟩ = some (.slice l1 gt.length j3) ∧ W'.cell? ⟨q + 1, 0, none⟩ = some (.slice d2 l.length i1) ∧ W'.cell? ⟨q + 1, 1, none⟩ = some (.slice f2 hf'.length i2) ∧ W'.cell? ⟨q + 1, 2, none⟩ = some (.slice l2 ht'.length i3)) := by
              intro W' hb
              have a0 := t0.run hb
              have a1 := t8.run hb
              have a2 := s8.run hb
              exact ⟨cell_fact a0 0, cell_fact a0 1, cell_fact a0 2, cell_fact a0 3, cell_fact a0 4, cell_fact a0 5, cell_fact a1 0, cell_fact a1 1, cell_fact a1 2, cell_fact a2 0, cell_fact a2 1, cell_fact a2 2⟩
            have HK := Lib.hid hkeep
            have hbd : Below Y.heap.size Y Y.drew := Below.drew (Below.refl _ _)
            obtain ⟨m0, m1, m2, m3, m4, m5, m6, m7, m8, m9, m10, m11⟩ := hkeep Y (Below.refl _ _)
            have HTY := Lib.hid twr
            have HSY := Lib.hid swr
            have HDY := Lib.hid dwr
            have HBY := Lib.hid hbw
            have Y0 := Lib.hid t0
            have Y1 := Lib.hid t1
            have Y8 := Lib.hid t8
            have Y9 := Lib.hid t9
            have Z9 := Lib.hid s9
            have CO1 := Lib.hid (fun W' (hb : Below Y.heap.size Y W') => wof_any d1 f1 l1 l.length j1 gf.length j2 gt.length j3 ⟨G, gf, gt⟩ W' (HTY.out.run hb) HGZ.out)
            have CO2 := Lib.hid (fun W' (hb : Below Y.heap.size Y W') => wof_any d2 f2 l2 l.length i1 hf'.length i2 ht'.length i3 ⟨G, hf', ht'⟩ W' (HSY.out.run hb) HGZ.out)
            have zl : ((l.length : Int) != (l.length : Int)) = false := by simp
            clear hkeep t0 t1 t8 t9 s8 s9 twr swr dwr hbT hbw x1 x2 x3 x4 x5 x6 y1 y2 y3 y4 y5 y6 z1 z2 z3 z4 z5 z6 hb5 hw5 T0 T1 T8 T9 HTW HSW HBZ CA2
            go_region_held3 (fun W' => W'.cell? ⟨w.heap.size, 0, none⟩ = some (.int .u64 xi) ∧ W'.cell? ⟨w.heap.size, 1, none⟩ = some (.int .i64 xs) ∧ W'.cell? ⟨w.heap.size, 2, none⟩ = some (.int .i64 xt) ∧ W'.cell? ⟨w.heap.size, 3, none⟩ = some (.slice da l.length dc) ∧ W'.cell? ⟨w.heap.size, 4, none⟩ = some (.slice fa f.length fc) ∧ W'.cell? ⟨w.heap.size, 5, none⟩ = some (.slice none 0 0) ∧ W'.cell? ⟨k + 1, 0, none⟩ = some (.slice d1 l.length j1) ∧ W'.cell? ⟨k + 1, 1, none⟩ = some (.slice f1 gf.length j2) ∧ W'.cell? ⟨k + 1, 2, none⟩ = some (.slice l1 gt.length j3) ∧ W'.cell? ⟨q + 1, 0, none⟩ = some (.slice d2 l.length i1) ∧ W'.cell? ⟨q + 1, 1, none⟩ = some (.slice f2 hf'.length i2) ∧ W'.cell? ⟨q + 1, 2, none⟩ = some (.slice l2 ht'.length i3))
              (first | go_keep | exact HK.out _ (by assumption))
              (first
                | (go_at_call 14; with_reducible refine (CO1.out _ (by assumption)).mono ?_; rintro e u1 ⟨a1, c1, rfl, hwa, hb1⟩; have hc1 : Below Y.heap.size Y u1 := below_run (by assumption) hb1; clear hb1)
                | (go_at_call 14; with_reducible refine (CO2.out _ (by assumption)).mono ?_; rintro e u2 ⟨a2, c2, rfl, hwb, hb2⟩; have hwa2 := hwa.devs.below hb2; have hc2 : Below Y.heap.size Y u2 := below_run (by assumption) hb2; clear hb2)
                | (go_at_call 29; refine (same_any _ _ G _ hwa2 hwb.devs).mono ?_; rintro e u3 ⟨rfl, hb3⟩; have hc3 : Below Y.heap.size Y u3 := below_run (by assumption) hb3; clear hb3))
            have HB6 := Lib.hid (below_run HBY.out hc3)
            have HD6 := Lib.hid (show DevsAt u3 (.slice da l.length dc) l from HDY.out.devs.below hc3)
            have HG6 := Lib.hid (show DevsAt u3 (.slice d1 l.length j1) G from HTY.out.devs.below hc3)
            have r0 := Y0.out.run hc3
            have V1 := Lib.hid (Y1.out.run hc3)
            have V8 := Lib.hid (Y8.out.run hc3)
            have V9 := Lib.hid (Y9.out.run hc3)
            have X9 := Lib.hid (Z9.out.run hc3)
            have V0 := Lib.hid r0
            obtain ⟨x1, x2, x3, x4, x5, x6⟩ := row_facts r0
            clear r0 hc1 hc2 hc3 hwa hwb hwa2 m0 m1 m2 m3 m4 m5 m6 m7 m8 m9 m10 m11 Y0 Y1 Y8 Y9 Z9 HBY HDY HSY HTY HK CO1 CO2 hbd
            go_wp2
            go_loopw [14, 15, 120] (fun _ _ i wr => ∃ k : Nat, k ≤ l.length ∧ i = .int .i64 k ∧ Below u3.heap.size u3 wr) (fun _ _ i _ => l.length - (intOf i).toNat)
            case atStart => exact ⟨0, Nat.zero_le _, rfl, Below.refl _ _⟩
            case round =>
              obtain ⟨j, hj, rfl, hb0⟩ := hrel
              clear x1 x2 x3 x4 x5 x6
              by_cases hlt2 : j < l.length
              · have hlt3 : (j : Int) < (l.length : Int) := by omega
                have hj0 : (0 : Int) ≤ (j : Int) := by omega
                obtain ⟨b, off, cap, hve, hbl, hcel⟩ : ∃ b off cap, Value.slice da l.length dc = .slice (some ⟨b, off, none⟩) l.length cap ∧ b < wr.heap.size ∧ ∀ i, i < l.length * 7 → wr.cell? ⟨b, off + i, none⟩ = devsC l i := by
                  rcases HD6.out.below hb0 with ⟨h0, _⟩ | ⟨h0, h1, b, off, cap, hv, hbl, hcel⟩
                  · omega
                  · exact ⟨b, off, cap, hv, hbl, hcel⟩
                cases hve
                obtain ⟨d, hd, e10, e11, e12, e13, e14, e15, e16⟩ := dev_cells hcel j hlt2
                have r1 := V1.out.run hb0
                have r8 := V8.out.run hb0
                obtain ⟨y1, y2, y3, y4, y5, y6⟩ := row_facts r1
                obtain ⟨z1, z2, z3, z4, z5, z6⟩ := row_facts r8
                have hoth := HOT.out j d hd
                have HD := Lib.hid hd
                have hglen : j < G.length := by
                  have := HLN.out
                  omega
                have hgat : DevsAt wr (.slice d1 G.length j1) G := by
                  have h9 := HG6.out.below hb0
                  rw [← HLN.out] at h9
                  exact h9
                obtain ⟨b', off', hve', hbl', hcel'⟩ : ∃ b off, d1 = some ⟨b, off, none⟩ ∧ b < wr.heap.size ∧ ∀ i, i < G.length * 7 → wr.cell? ⟨b, off + i, none⟩ = devsC G i := by
                  rcases hgat with ⟨h0, _⟩ | ⟨h0, h1, b, off, cap, hv, hbl, hcel⟩
                  · omega
                  · obtain ⟨e1, -, -⟩ := Value.slice.inj hv
                    exact ⟨b, off, e1, hbl, hcel⟩
                subst hve'
                obtain ⟨g, hg, f10, f11, f12, f13, f14, f15, f16⟩ := dev_cells hcel' j hglen
                have HG := Lib.hid hg
                by_cases hid : d.id = dst
                · have e9 : (d.id != dst) = false := by simpa using hid
                  clear hcel hcel' hd hg hoth hgat r1 r8 hid hglen
                  go_wp2
                  go_quiet (fail)
                  go_wp2
                  go_roundw
                  case rel =>
                    have hsz0 := hb0.size
                    exact ⟨j + 1, by omega, by go_num, by (repeat' (first | (with_reducible exact Below.refl _ _) | (with_reducible assumption) | (with_reducible refine below_run ?_ (by assumption)) | (with_reducible refine below_of_upd ?_ (by assumption) ?_) | (with_reducible refine below_drewN ?_ _) | (with_reducible refine Below.drew ?_) | (with_reducible refine below_seven ?_ ?_) | (with_reducible refine below_six ?_ ?_) | (with_reducible refine below_one ?_ ?_) | (with_reducible refine Below.alloc ?_ ?_ _) | (with_reducible refine below_after ?_ ?_ (by assumption)) | (show _ ≤ _; first | omega | (simp; done) | (simp; omega))))⟩
                  case measure => simp [intOf]; omega
                · have e9 : (d.id != dst) = true := by simpa using hid
                  have hgd : g = d := by
                    have h9 := hoth hid
                    rw [HG.out] at h9
                    cases h9
                    rfl
                  subst hgd
                  clear hcel hcel' hd hg hoth hgat r1 r8 hid hglen
                  go_wp2
                  go_quiet (fail)
                  go_wp2
                  go_roundw
                  case rel =>
                    have hsz0 := hb0.size
                    exact ⟨j + 1, by omega, by go_num, by (repeat' (first | (with_reducible exact Below.refl _ _) | (with_reducible assumption) | (with_reducible refine below_run ?_ (by assumption)) | (with_reducible refine below_of_upd ?_ (by assumption) ?_) | (with_reducible refine below_drewN ?_ _) | (with_reducible refine Below.drew ?_) | (with_reducible refine below_seven ?_ ?_) | (with_reducible refine below_six ?_ ?_) | (with_reducible refine below_one ?_ ?_) | (with_reducible refine Below.alloc ?_ ?_ _) | (with_reducible refine below_after ?_ ?_ (by assumption)) | (show _ ≤ _; first | omega | (simp; done) | (simp; omega))))⟩
                  case measure => simp [intOf]; omega
              · obtain rfl : j = l.length := by omega
                have r9 := V9.out.run hb0
                have s9 := X9.out.run hb0
                have r0 := V0.out.run hb0
                obtain ⟨x1, x2, x3, x4, x5, x6⟩ := row_facts r0
                obtain ⟨y1, y2, y3, y4, y5, y6⟩ := row_facts r9
                obtain ⟨z1, z2, z3, z4, z5, z6⟩ := row_facts s9
                have HB7 := Lib.hid (below_run HB6.out hb0)
                clear r9 s9 r0 hb0
                rcases HRS.out with ⟨h2, heq⟩ | ⟨h2, e1, e2, e3, e4', e5'⟩
                · cases heq
                  have e9 : (ak == 2) = true := by simpa using h2
                  clear h2
                  go_wp2_with fail
                  refine (awake49_any _).mono ?_
                  rintro e w9 ⟨rfl, hb9⟩
                  go_wp2
                  go_ret
                  exact ⟨rfl, below_run HB7.out hb9⟩
                · subst e1 e2 e3
                  have e9 : (ak == 2) = false := by simpa using h2
                  clear h2
                  go_wp2_with fail
                  refine (awake49_any _).mono ?_
                  rintro e w9 ⟨rfl, hb9⟩
                  go_wp2
                  go_ret
                  exact ⟨rfl, below_run HB7.out hb9⟩
        · have e8 : (m != 0) = true := by simpa using p2
          clear p2
          go_wp2_with fail
          refine (awake49_any _).mono ?_
          rintro e w9 ⟨rfl, hb9⟩
          go_wp2
          go_ret
          exact ⟨rfl, below_run HB3.out hb9⟩
end Go.Proofs.YtpjmhhfpjhmiiaaGreat
