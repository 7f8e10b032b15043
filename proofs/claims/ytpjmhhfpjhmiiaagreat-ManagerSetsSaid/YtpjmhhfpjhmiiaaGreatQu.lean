/-
  The walk of the law ManagerSets.
-/
import Derived.Test.YtpjmhhfpjhmiiaaGreatQt
namespace Go.Proofs.YtpjmhhfpjhmiiaaGreat
open Go.RowKit Go.Shelf

set_option maxHeartbeats 8000000 in
set_option maxRecDepth 100000 in
theorem law_sets (x : Mgr) (da fa la : Option Addr) (dn dc fn fc ln lc : Nat) (y : Wre) (wh : Int) (s : ByteArray) (w : World) (h : WireAt w (.slice da dn dc) (.slice fa fn fc) (.slice la ln lc) y) (hr : y.devs.length * 56 ≤ 140737488351232) (hwh : 0 ≤ wh ∧ wh ≤ 255) :
    Calls Tryz.prog 6 #[.agg #[.int .u64 x.id, .int .i64 x.seq, .int .i64 x.tries, .slice da dn dc, .slice fa fn fc, .slice la ln lc], .int .u8 wh, .string s] w fun e w' => e = .returned (.bool true) ∧ Below w.heap.size w w' := by
  obtain ⟨xi, xs, xt⟩ := x
  obtain ⟨l, f, t⟩ := y
  dsimp only at hr
  obtain rfl : dn = l.length := by
    obtain ⟨a, c, e⟩ := shape_of h.devs
    cases e
    rfl
  show Calls Tryz.prog 6 #[.agg #[.int .u64 xi, .int .i64 xs, .int .i64 xt, .slice da l.length dc, .slice fa fn fc, .slice la ln lc], _, _] w _
  obtain ⟨W, hW⟩ : ∃ W, (w.alloc (.cells #[.int .u64 xi, .int .i64 xs, .int .i64 xt, .slice da l.length dc, .slice fa fn fc, .slice la ln lc] 31)).setCell ⟨w.heap.size, 5, none⟩ (.slice none 0 0) = W := ⟨_, rfl⟩
  have hbW : Below w.heap.size w W := by rw [← hW]; exact below_one ((Below.refl _ _).alloc (Nat.le_refl _) _) (Nat.le_refl _)
  have r0 : RowAt W w.heap.size 31 #[.int .u64 xi, .int .i64 xs, .int .i64 xt, .slice da l.length dc, .slice fa fn fc, .slice none 0 0] := by rw [← hW]; exact RowAt.set (RowAt.new _ _ _) rfl
  obtain ⟨q, hq⟩ : ∃ q, rightW ⟨xi, xs, xt⟩ ⟨l, f, []⟩ = q := ⟨_, rfl⟩
  have hw0 := h.run hbW
  have hwW : WireAt W (.slice da l.length dc) (.slice fa fn fc) (.slice none 0 0) ⟨l, f, []⟩ := ⟨hw0.devs, hw0.room, hw0.faults, .inl ⟨rfl, _, _, rfl⟩⟩
  have HBW := Lib.hid hbW
  have R0 := Lib.hid r0
  have H := Lib.hid hwW
  have HQ := Lib.hid hq
  have CR := Lib.hid (wright_any q xi xs xt da fa none l.length dc fn fc 0 0 ⟨l, f, []⟩ W hwW hr hq)
  have q0 := RowAt.new w 31 #[.int .u64 xi, .int .i64 xs, .int .i64 xt, .slice da l.length dc, .slice fa fn fc, .slice la ln lc]
  obtain ⟨x1, x2, x3, x4, x5, x6⟩ := row_facts q0
  obtain ⟨y1, y2, y3, y4, y5, y6⟩ := row_facts r0
  clear h r0 hbW hq hw0 hwW q0
  go_enter Tryz.func6, Tryz.ntmps6
  go_upto_region 2 with fail
  clear x1 x2 x3 x4 x5 x6
  go_wp2_with fail
  refine (CR.out).mono ?_
  rintro e w1 ⟨rfl, hb1⟩
  have HB1 := Lib.hid (below_run HBW.out hb1)
  have H1 := Lib.hid (H.out.run hb1)
  have r1 := R0.out.run hb1
  have R1 := Lib.hid r1
  clear hb1 H R0 HBW CR y1 y2 y3 y4 y5 y6 hW
  obtain ⟨x1, x2, x3, x4, x5, x6⟩ := row_facts r1
  clear r1
  have hways : q = false ∨ (q = true ∧ l.length = 0) ∨ (q = true ∧ ¬ l.length = 0 ∧ (32 : Int) < (s.size : Int)) ∨ (q = true ∧ ¬ l.length = 0 ∧ ¬ (32 : Int) < (s.size : Int)) := by
    cases q
    · exact .inl rfl
    · simp only [reduceCtorEq, false_or, true_and]
      omega
  have HW := Lib.hid hways
  clear hways
  rcases HW.out with rfl | ⟨rfl, g1⟩ | ⟨rfl, g1, g2⟩ | ⟨rfl, g1, g2⟩
  · go_wp2_with fail
    refine (awake49_any _).mono ?_
    rintro e w2 ⟨rfl, hb2⟩
    go_wp2
    go_ret
    exact ⟨rfl, below_run HB1.out hb2⟩
  · have e1 : ((l.length : Int) == 0) = true := by simp [g1]
    clear g1
    go_wp2_with fail
    refine (awake49_any _).mono ?_
    rintro e w2 ⟨rfl, hb2⟩
    go_wp2
    go_ret
    exact ⟨rfl, below_run HB1.out hb2⟩
  · have e1 : ((l.length : Int) == 0) = false := by simpa using g1
    clear g1
    go_wp2_with fail
    refine (awake49_any _).mono ?_
    rintro e w2 ⟨rfl, hb2⟩
    go_wp2
    go_ret
    exact ⟨rfl, below_run HB1.out hb2⟩
  · have e1 : ((l.length : Int) == 0) = false := by simpa using g1
    have hqq := HQ.out
    unfold rightW at hqq
    simp only [Bool.and_eq_true, decide_eq_true_eq] at hqq
    obtain ⟨-, hy0, hx0⟩ := hqq
    obtain ⟨i, hi⟩ : ∃ i, wh.toNat % l.length = i := ⟨_, rfl⟩
    have hil : i < l.length := by rw [← hi]; exact Nat.mod_lt _ (by omega)
    have hmod : wh.tmod (l.length : Int) = (i : Int) := by
      obtain ⟨n, rfl⟩ : ∃ n : Nat, wh = n := ⟨wh.toNat, by omega⟩
      rw [Int.tmod_eq_emod_of_nonneg (by omega), ← hi]
      simp
    obtain ⟨d, hd⟩ : ∃ d, l[i]? = some d := ⟨l[i], List.getElem?_eq_getElem hil⟩
    obtain ⟨hE, hlen, g, hg, hgd, hk0, hk1, hgl⟩ := sets_law hx0 hy0 hd (s := s) (by omega)
    obtain ⟨p, hp⟩ : ∃ p, askM ⟨xi, xs, xt⟩ ⟨l, f, []⟩ ⟨d.id, 5, 130, s⟩ = p := ⟨_, rfl⟩
    rw [hp] at hlen hg hk0 hk1
    obtain ⟨⟨xi', xs', xt'⟩, ⟨l', f', t'⟩, ⟨ak, ad, ar, at'⟩⟩ := p
    dsimp only at hlen hg hk0 hk1
    obtain ⟨gl, rfl⟩ : ∃ gl, g = { d with lb := gl } := ⟨g.lb, by cases g; cases d; simp at hgd ⊢; simp [hgd]⟩
    dsimp only at hk0 hk1 hgl
    have CA := Lib.hid (fun (V : World) hv => ask_lift (V := V) (W := V) (da := da) (fa := fa) (la := none) (dn := l.length) (dc := dc) (fn := fn) (fc := fc) (ln := 0) (lc := 0) ((askU_of hE).trans hp) hE hv (Below.refl _ _))
    simp only [hlen] at CA
    have hl2 : (l.length : Int) ≤ 140737488351232 := by omega
    have hw1 : ∃ b off cap, Value.slice da l.length dc = .slice (some ⟨b, off, none⟩) l.length cap ∧ ∀ j, j < l.length * 7 → w1.cell? ⟨b, off + j, none⟩ = devsC l j := by
      rcases H1.out.devs with ⟨h0, _⟩ | ⟨h0, h1, b, off, cap, hv, hbl, hcel⟩
      · exact absurd h0 g1
      · exact ⟨b, off, cap, hv, hcel⟩
    obtain ⟨b, off, cap, hve, hcel⟩ := hw1
    cases hve
    obtain ⟨d', hd', e10, e11, e12, e13, e14, e15, e16⟩ := dev_cells hcel i hil
    rw [hd] at hd'
    simp only [Option.some.injEq] at hd'
    subst hd'
    have hil' : (i : Int) < (l.length : Int) := by omega
    have hw0 : (0 : Int) ≤ wh := hwh.1
    have hw255 : wh ≤ 255 := hwh.2
    have HG := Lib.hid hg
    have HK0 := Lib.hid hk0
    have HK1 := Lib.hid hk1
    have HGL := Lib.hid hgl
    have HLN := Lib.hid hlen
    clear hcel hd hy0 hx0 hi hE hp hlen hg hk0 hk1 hgl hgd hr hwh HQ
    go_upto_region 7 with fail
    have v0 := (R1.out.alloc (.cells #[.int .u64 d.id, .int .i64 d.ft, .int .i64 d.ad, .string d.lb, .int .i64 d.hr, .bool d.mu, .bool d.idf] 68)).alloc (.cells #[.int .u64 d.id, .int .i64 5, .int .i64 130, .string s] 50)
    have v1 : RowAt ((w1.alloc (.cells #[.int .u64 d.id, .int .i64 d.ft, .int .i64 d.ad, .string d.lb, .int .i64 d.hr, .bool d.mu, .bool d.idf] 68)).alloc (.cells #[.int .u64 d.id, .int .i64 5, .int .i64 130, .string s] 50)) w1.heap.size 68 #[.int .u64 d.id, .int .i64 d.ft, .int .i64 d.ad, .string d.lb, .int .i64 d.hr, .bool d.mu, .bool d.idf] := (RowAt.new _ _ _).alloc _
    have v2 : RowAt ((w1.alloc (.cells #[.int .u64 d.id, .int .i64 d.ft, .int .i64 d.ad, .string d.lb, .int .i64 d.hr, .bool d.mu, .bool d.idf] 68)).alloc (.cells #[.int .u64 d.id, .int .i64 5, .int .i64 130, .string s] 50)) (w1.heap.size + 1) 50 #[.int .u64 d.id, .int .i64 5, .int .i64 130, .string s] := RowAt.mk (by simp) rfl
    have hbv : Below w1.heap.size w1 ((w1.alloc (.cells #[.int .u64 d.id, .int .i64 d.ft, .int .i64 d.ad, .string d.lb, .int .i64 d.hr, .bool d.mu, .bool d.idf] 68)).alloc (.cells #[.int .u64 d.id, .int .i64 5, .int .i64 130, .string s] 50)) := by (repeat' (first | (with_reducible exact Below.refl _ _) | (with_reducible assumption) | (with_reducible refine below_run ?_ (by assumption)) | (with_reducible refine below_of_upd ?_ (by assumption) ?_) | (with_reducible refine below_drewN ?_ _) | (with_reducible refine Below.drew ?_) | (with_reducible refine below_seven ?_ ?_) | (with_reducible refine below_six ?_ ?_) | (with_reducible refine below_one ?_ ?_) | (with_reducible refine Below.alloc ?_ ?_ _) | (with_reducible refine below_after ?_ ?_ (by assumption)) | (show _ ≤ _; first | omega | (simp; done) | (simp; omega))))
    have hwv := H1.out.run hbv
    have hbw := below_run HB1.out hbv
    generalize (w1.alloc (.cells #[.int .u64 d.id, .int .i64 d.ft, .int .i64 d.ad, .string d.lb, .int .i64 d.hr, .bool d.mu, .bool d.idf] 68)).alloc (.cells #[.int .u64 d.id, .int .i64 5, .int .i64 130, .string s] 50) = V at v0 v1 v2 hbv hwv hbw ⊢
    have V0 := Lib.hid v0
    have V1 := Lib.hid v1
    have HBV := Lib.hid hbw
    clear x1 x2 x3 x4 x5 x6 e10 e11 e12 e13 e14 e15 e16 hbv hbw H1 R1 HB1
    obtain ⟨x1, x2, x3, x4, x5, x6⟩ := row_facts v0
    obtain ⟨z1, z2, z3, z4, z5, z6⟩ := row_facts v2
    have CA1 := Lib.hid (CA.out V hwv)
    clear v0 v1 v2 hwv CA
    go_wp2_with fail
    refine CA1.out.mono ?_
    rintro e w2 ⟨⟨da', fa', la', dc', fc', lc', rfl, hw2⟩, hb2⟩
    go_upto_region 8 with fail
    rw [show w2.heap.size + 1 + 1 = w2.heap.size + 2 from rfl]
    have hbT : Below w2.heap.size w2 (((w2.alloc (.cells #[.int .u64 xi', .int .i64 xs', .int .i64 xt'] 24)).alloc (.cells #[.slice da' l.length dc', .slice fa' f'.length fc', .slice la' t'.length lc'] 29)).alloc (.cells #[.int .i64 ak, .string ad, .int .i64 ar, .int .i64 at'] 53)) := by (repeat' (first | (with_reducible exact Below.refl _ _) | (with_reducible assumption) | (with_reducible refine below_run ?_ (by assumption)) | (with_reducible refine below_of_upd ?_ (by assumption) ?_) | (with_reducible refine below_drewN ?_ _) | (with_reducible refine Below.drew ?_) | (with_reducible refine below_seven ?_ ?_) | (with_reducible refine below_six ?_ ?_) | (with_reducible refine below_one ?_ ?_) | (with_reducible refine Below.alloc ?_ ?_ _) | (with_reducible refine below_after ?_ ?_ (by assumption)) | (show _ ≤ _; first | omega | (simp; done) | (simp; omega))))
    have t0 := (V0.out.run hb2).run hbT
    have t1 := (V1.out.run hb2).run hbT
    have t4 : RowAt (((w2.alloc (.cells #[.int .u64 xi', .int .i64 xs', .int .i64 xt'] 24)).alloc (.cells #[.slice da' l.length dc', .slice fa' f'.length fc', .slice la' t'.length lc'] 29)).alloc (.cells #[.int .i64 ak, .string ad, .int .i64 ar, .int .i64 at'] 53)) (w2.heap.size + 1) 29 #[.slice da' l.length dc', .slice fa' f'.length fc', .slice la' t'.length lc'] := (RowAt.mk (by simp) rfl).alloc _
    have t5 : RowAt (((w2.alloc (.cells #[.int .u64 xi', .int .i64 xs', .int .i64 xt'] 24)).alloc (.cells #[.slice da' l.length dc', .slice fa' f'.length fc', .slice la' t'.length lc'] 29)).alloc (.cells #[.int .i64 ak, .string ad, .int .i64 ar, .int .i64 at'] 53)) (w2.heap.size + 2) 53 #[.int .i64 ak, .string ad, .int .i64 ar, .int .i64 at'] := RowAt.mk (by simp) rfl
    have td := hw2.devs.below hbT
    have hbw := below_run (below_run HBV.out hb2) hbT
    generalize ((w2.alloc (.cells #[.int .u64 xi', .int .i64 xs', .int .i64 xt'] 24)).alloc (.cells #[.slice da' l.length dc', .slice fa' f'.length fc', .slice la' t'.length lc'] 29)).alloc (.cells #[.int .i64 ak, .string ad, .int .i64 ar, .int .i64 at'] 53) = T at t0 t1 t4 t5 td hbT hbw ⊢
    have HBT := Lib.hid hbw
    have T1 := Lib.hid t1
    have T5 := Lib.hid t5
    have T4 := Lib.hid t4
    clear x1 x2 x3 x4 x5 x6 z1 z2 z3 z4 z5 z6 hbw hbT hb2 hw2 CA1 V0 V1 HBV
    obtain ⟨x1, x2, x3, x4, x5, x6⟩ := row_facts t0
    obtain ⟨y1, y2, y3, y4, y5, y6⟩ := row_facts t1
    obtain ⟨z1, z2, z3, z4, z5, z6⟩ := row_facts t4
    obtain ⟨v1, v2, v3, v4, v5, v6⟩ := row_facts t5
    have hnn : ((l.length : Int) != (l.length : Int)) = false := by simp
    have hil2 : i < l'.length := by
      have := HLN.out
      omega
    have td2 : DevsAt T (.slice da' l'.length dc') l' := by rw [HLN.out]; exact td
    have hw1 : ∃ b off, da' = some ⟨b, off, none⟩ ∧ ∀ j, j < l'.length * 7 → T.cell? ⟨b, off + j, none⟩ = devsC l' j := by
      rcases td2 with ⟨h0, _⟩ | ⟨h0, h1, b, off, cap, hv, hbl, hcel⟩
      · omega
      · obtain ⟨e1, -, -⟩ := Value.slice.inj hv
        exact ⟨b, off, e1, hcel⟩
    obtain ⟨b2, off2, hve2, hcel2⟩ := hw1
    subst hve2
    obtain ⟨d', hd', e10, e11, e12, e13, e14, e15, e16⟩ := dev_cells hcel2 i hil2
    rw [HG.out] at hd'
    simp only [Option.some.injEq] at hd'
    subst hd'
    dsimp only at e10 e11 e12 e13 e14 e15 e16
    clear hcel2 td td2 hil2 t0 t1 t4 t5
    go_upto_region 11 with fail
    have U1 := Lib.hid (T1.out.alloc (.cells #[.int .u64 d.id, .int .i64 d.ft, .int .i64 d.ad, .string gl, .int .i64 d.hr, .bool d.mu, .bool d.idf] 68))
    have U5 := Lib.hid (T5.out.alloc (.cells #[.int .u64 d.id, .int .i64 d.ft, .int .i64 d.ad, .string gl, .int .i64 d.hr, .bool d.mu, .bool d.idf] 68))
    have U6 := Lib.hid (RowAt.new T 68 #[.int .u64 d.id, .int .i64 d.ft, .int .i64 d.ad, .string gl, .int .i64 d.hr, .bool d.mu, .bool d.idf])
    have HBU := Lib.hid (HBT.out.alloc HBT.out.size (.cells #[.int .u64 d.id, .int .i64 d.ft, .int .i64 d.ad, .string gl, .int .i64 d.hr, .bool d.mu, .bool d.idf] 68))
    have hTz := HBT.out.size
    have n1 : w1.heap.size < T.heap.size := lt_of_block T1.out
    have n5 : w2.heap.size + 2 < T.heap.size := lt_of_block T5.out
    generalize T.alloc (.cells #[.int .u64 d.id, .int .i64 d.ft, .int .i64 d.ad, .string gl, .int .i64 d.hr, .bool d.mu, .bool d.idf] 68) = U at U1 U5 U6 HBU ⊢
    generalize T.heap.size = kg at U6 hTz n1 n5 ⊢
    clear x1 x2 x3 x4 x5 x6 y1 y2 y3 y4 y5 y6 z1 z2 z3 z4 z5 z6 v1 v2 v3 v4 v5 v6 e10 e11 e12 e13 e14 e15 e16 T1 T5 T4 HBT
    obtain ⟨x1, x2, x3, x4, x5, x6⟩ := row_facts U1.out
    obtain ⟨y1, y2, y3, y4, y5, y6⟩ := row_facts U5.out
    obtain ⟨z1, z2, z3, z4, z5, z6⟩ := row_facts U6.out
    have g1' : ¬ kg = w1.heap.size := by omega
    have g2' : ¬ w1.heap.size = kg := by omega
    obtain ⟨c, hc⟩ : ∃ c, (gl.toList == d.lb.toList) = c := ⟨_, rfl⟩
    have hU9 : RowAt (U.setCell ⟨kg, 3, none⟩ (.string d.lb)) kg 68 #[.int .u64 d.id, .int .i64 d.ft, .int .i64 d.ad, .string d.lb, .int .i64 d.hr, .bool d.mu, .bool d.idf] := RowAt.set U6.out rfl
    have hV9 : RowAt (U.setCell ⟨kg, 3, none⟩ (.string d.lb)) w1.heap.size 68 #[.int .u64 d.id, .int .i64 d.ft, .int .i64 d.ad, .string d.lb, .int .i64 d.hr, .bool d.mu, .bool d.idf] := U1.out.far1 g2'
    obtain ⟨p1, p2, p3, p4, p5, p6⟩ := row_facts hU9
    obtain ⟨q1, q2, q3, q4, q5, q6⟩ := row_facts hV9
    have HC := Lib.hid hc
    have HU6 := Lib.hid U6.out
    clear hU9 hV9 hc U1 U5 U6
    have hways : (gl = s ∧ c = false ∧ ak = 0) ∨ (gl = s ∧ c = false ∧ ak ≠ 0 ∧ ak ≠ 1) ∨ (gl = s ∧ c = true ∧ ak = 0) ∨ (gl = s ∧ c = true ∧ ak ≠ 0 ∧ ak = 1) ∨ (gl = s ∧ c = true ∧ ak ≠ 0 ∧ ak ≠ 1) ∨ (gl = d.lb ∧ c = true ∧ ak ≠ 0 ∧ ak = 1) ∨ (gl = d.lb ∧ c = true ∧ ak ≠ 0 ∧ ak ≠ 1) := by
      have hA : ak = 1 → c = true := fun h => by rw [← HC.out, HK1.out h]; exact beq_self_eq_true _
      by_cases hs : gl = s
      · cases c with
        | false =>
          by_cases h0 : ak = 0
          · exact .inl ⟨hs, rfl, h0⟩
          · exact .inr (.inl ⟨hs, rfl, h0, fun h1 => by cases hA h1⟩)
        | true =>
          by_cases h0 : ak = 0
          · exact .inr (.inr (.inl ⟨hs, rfl, h0⟩))
          · by_cases h1 : ak = 1
            · exact .inr (.inr (.inr (.inl ⟨hs, rfl, h0, h1⟩)))
            · exact .inr (.inr (.inr (.inr (.inl ⟨hs, rfl, h0, h1⟩))))
      · have h2 : gl = d.lb := HGL.out.resolve_right hs
        have h3 : c = true := by rw [← HC.out, h2]; exact beq_self_eq_true _
        have h0 : ak ≠ 0 := fun h => hs (HK0.out h)
        by_cases h1 : ak = 1
        · exact .inr (.inr (.inr (.inr (.inr (.inl ⟨h2, h3, h0, h1⟩)))))
        · exact .inr (.inr (.inr (.inr (.inr (.inr ⟨h2, h3, h0, h1⟩)))))
    have HWW := Lib.hid hways
    have hcc := HC.out
    clear hways
    rcases HWW.out with ⟨rfl, rfl, rfl⟩ | ⟨rfl, rfl, h0, h1⟩ | ⟨rfl, rfl, rfl⟩ | ⟨rfl, rfl, h0, rfl⟩ | ⟨rfl, rfl, h0, h1⟩ | ⟨rfl, rfl, h0, rfl⟩ | ⟨rfl, rfl, h0, h1⟩
    · skip
      go_wp2_with fail
      refine (awake49_any _).mono ?_
      rintro e w9 ⟨rfl, hb9⟩
      go_wp2
      go_ret
      exact ⟨rfl, below_run (below_one HBU.out hTz) hb9⟩
    · have e0 : (ak == 0) = false := by simpa using h0
      have e1' : (ak == 1) = false := by simpa using h1
      clear h0 h1
      go_wp2_with fail
      refine (awake49_any _).mono ?_
      rintro e w9 ⟨rfl, hb9⟩
      go_wp2
      go_ret
      exact ⟨rfl, below_run (below_one HBU.out hTz) hb9⟩
    · skip
      go_wp2_with fail
      refine (awake49_any _).mono ?_
      rintro e w9 ⟨rfl, hb9⟩
      go_wp2
      go_ret
      exact ⟨rfl, below_run (below_one HBU.out hTz) hb9⟩
    · skip
      go_wp2_with fail
      refine (awake49_any _).mono ?_
      rintro e w9 ⟨rfl, hb9⟩
      go_wp2
      go_ret
      exact ⟨rfl, below_run (below_one HBU.out hTz) hb9⟩
    · have e0 : (ak == 0) = false := by simpa using h0
      have e1' : (ak == 1) = false := by simpa using h1
      clear h0 h1
      go_wp2_with fail
      refine (awake49_any _).mono ?_
      rintro e w9 ⟨rfl, hb9⟩
      go_wp2
      go_ret
      exact ⟨rfl, below_run (below_one HBU.out hTz) hb9⟩
    · skip
      go_wp2_with fail
      refine (awake49_any _).mono ?_
      rintro e w9 ⟨rfl, hb9⟩
      go_wp2
      go_ret
      exact ⟨rfl, below_run (below_one HBU.out hTz) hb9⟩
    · have e0 : (ak == 0) = false := by simpa using h0
      have e1' : (ak == 1) = false := by simpa using h1
      clear h0 h1
      go_wp2_with fail
      refine (awake49_any _).mono ?_
      rintro e w9 ⟨rfl, hb9⟩
      go_wp2
      go_ret
      exact ⟨rfl, below_run (below_one HBU.out hTz) hb9⟩
end Go.Proofs.YtpjmhhfpjhmiiaaGreat
