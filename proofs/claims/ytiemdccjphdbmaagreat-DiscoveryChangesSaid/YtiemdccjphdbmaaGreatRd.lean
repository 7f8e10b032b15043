/-
  One message that seeks, and what follows: the reference.
-/
import Derived.Test.YtiemdccjphdbmaaGreatRc
import Derived.Test.YtiemdccjphdbmaaGreatHq
namespace Go.Proofs.YtiemdccjphdbmaaGreat
open Go.RowKit

set_option maxHeartbeats 8000000 in
set_option maxRecDepth 100000 in
theorem ragain_any (ka da fa : Option Addr) (kn kc dn dc fn fc : Nat) (sr : Int) (t : SSt) (low high : Int) (w : World) (h : RPar w (.slice ka kn kc) (.slice da dn dc) (.slice fa fn fc) t) (hk : Sok sr t) (h1 : isId low = true) (h2 : isId high = true) (hle : low ≤ high) :
    Calls Tryz.prog 61 #[.agg #[.slice ka kn kc, .slice da dn dc, .int .u64 sr, .int .i64 t.seq, .slice fa fn fc, .int .i64 (IntKind.i64.wrap t.msgs)], .int .u64 low, .int .u64 high] w
      fun e w' => ∃ y, e = .returned (.tuple #[y, .bool (againS sr low high t).2.1, .bool (againS sr low high t).2.2]) ∧ RSt w' sr (againS sr low high t).1 y ∧ Below w.heap.size w w' := by
  have n1 := isId_nat h1
  have n2 := isId_nat h2
  have hdc := disc_chk hk.id hk.q0 hk.q1 h1 h2 hle
  have hdd := disc_dat (src := sr) (seq := t.seq) h1 h2
  have CO := Lib.hid (fun W => sought_any sr t.seq low high W (by omega) (by omega) (by omega) (by omega))
  obtain ⟨dd, hdd2⟩ : ∃ dd, bytesB low 6 ++ bytesB high 6 = dd := ⟨_, rfl⟩
  rw [hdd2] at hdd CO
  obtain ⟨N, hN⟩ : ∃ N, IntKind.i64.wrap (t.msgs : Int) = N := ⟨_, rfl⟩
  obtain ⟨p, hp⟩ : ∃ p, hearM (discM sr t.seq low high) (sentA t.devs (discM sr t.seq low high)) = p := ⟨_, rfl⟩
  obtain ⟨t1, ht1⟩ : ∃ t1, sendS t (discM sr t.seq low high) = t1 := ⟨_, rfl⟩
  obtain ⟨L, hL⟩ : ∃ L, sentA t.devs (discM sr t.seq low high) = L := ⟨_, rfl⟩
  obtain ⟨kk, id⟩ := p
  have hways := again_ways hp ht1
  have hkinds := hear_kinds (discM sr t.seq low high) (sentA t.devs (discM sr t.seq low high))
  have hans := seek_right (seq := t.seq) hk.id hk.q0 hk.q1 h1 h2 hle (devs_chk hk.devs)
  have hlen : (sentA t.devs (discM sr t.seq low high)).length ≤ 64 := Nat.le_trans (sentA_length _ _) (devs_few hk.devs)
  have hok1 := seek_ok hk h1 h2
  have hsome := @hear_some (discM sr t.seq low high) (sentA t.devs (discM sr t.seq low high))
  rw [hp] at hkinds hsome
  rw [disc_low h1 h2, disc_high h1 h2] at hsome
  have hid : kk = 1 → isId id = true := fun e => by
    have := hsome e
    exact decide_eq_true (by simp only at this; omega)
  rw [ht1] at hok1
  rw [hL] at hp hans hlen
  rw [hdd] at hp ht1 hdc hL
  have CS := Lib.hid (fun W h => rsend_any ka da fa kn kc dn dc fn fc sr t 281474976710655 sr t.seq 1 0 dd W h hk.devs hdc hk.q0 hk.q1)
  rw [hN] at CS ⊢
  have CU := Lib.hid (fun v W hv => runderstood_any v L 281474976710655 sr t.seq 1 0 dd W hv hlen hans hdc rfl)
  have HOK := Lib.hid hok1
  have HKN := Lib.hid hkinds
  have HID := Lib.hid hid
  have HW := Lib.hid hways
  have HL := Lib.hid hL
  have HP := Lib.hid hp
  have HU := Lib.hid ht1
  have H := Lib.hid h
  clear hkinds hid hsome hk h1 h2 hle hdc hdd hdd2 hp ht1 hways hans hlen hok1 hN n1 n2 hL h
  go_enter Tryz.func61, Tryz.ntmps61
  go_wp2_with fail
  refine (CO.out _).mono ?_
  rintro e w1 ⟨rfl, hb1⟩
  have hbw1 : Below w.heap.size w w1 := by (repeat' (first | (with_reducible exact Below.refl _ _) | (with_reducible assumption) | (with_reducible refine below_run ?_ (by assumption)) | (with_reducible refine below_of_upd ?_ (by assumption) ?_) | (with_reducible refine below_drewN ?_ _) | (with_reducible refine Below.drew ?_) | (with_reducible refine below_seven ?_ ?_) | (with_reducible refine below_six ?_ ?_) | (with_reducible refine below_one ?_ ?_) | (with_reducible refine Below.alloc ?_ ?_ _) | (with_reducible refine below_after ?_ ?_ (by assumption)) | (show _ ≤ _; first | omega | (simp; done) | (simp; omega))))
  have hz1 := hbw1.size
  have r0 : RowAt w1 w.heap.size 86 #[.slice ka kn kc, .slice da dn dc, .int .u64 sr, .int .i64 t.seq, .slice fa fn fc, .int .i64 N] := RowAt.run ((RowAt.new _ _ _).alloc _) hb1
  have r1 : RowAt w1 (w.heap.size + 1) 86 #[.slice none 0 0, .slice none 0 0, .int .u64 0, .int .i64 0, .slice none 0 0, .int .i64 0] := RowAt.run (RowAt.mk (by simp) rfl) hb1
  have hlt1 := lt_of_block r1
  obtain ⟨a1, a2, a3, a4, a5, a6⟩ := row_facts r0
  have hp2 := (H.out.run hbw1).run ((Below.refl _ _).alloc (Nat.le_refl _) (.cells #[.int .u64 281474976710655, .int .u64 sr, .int .i64 t.seq, .int .i64 1, .int .i64 0, .string dd] 43))
  have HP2 := Lib.hid hp2
  have hne1 : ¬ w.heap.size = w1.heap.size := by omega
  have hne2 : ¬ w1.heap.size = w.heap.size := by omega
  have HB1 := Lib.hid hbw1
  have R0 := Lib.hid r0
  have R1 := Lib.hid r1
  clear hb1 hbw1 r0 r1 hp2 CO
  go_wp2_with fail
  refine (CS.out _ HP2.out).mono ?_
  rintro e w3 ⟨y, v, rfl, hy, hv, hb3⟩
  have hy' : RSt w3 sr t1 y := by rw [← HU.out]; exact hy
  obtain ⟨xa, xn, xc, ya, yn, yc, za, zn, zc, rfl, hpar⟩ := hy'
  obtain ⟨Q, hQ⟩ : ∃ Q, t1.seq = Q := ⟨_, rfl⟩
  obtain ⟨N', hN'⟩ : ∃ N', IntKind.i64.wrap (t1.msgs : Int) = N' := ⟨_, rfl⟩
  rw [stA, hQ, hN']
  have s0 := (R0.out.alloc (.cells #[.int .u64 281474976710655, .int .u64 sr, .int .i64 t.seq, .int .i64 1, .int .i64 0, .string dd] 43)).run hb3
  have s1 := (R1.out.alloc (.cells #[.int .u64 281474976710655, .int .u64 sr, .int .i64 t.seq, .int .i64 1, .int .i64 0, .string dd] 43)).run hb3
  have s2 : RowAt w3 w1.heap.size 43 #[.int .u64 281474976710655, .int .u64 sr, .int .i64 t.seq, .int .i64 1, .int .i64 0, .string dd] := RowAt.run (RowAt.new _ _ _) hb3
  have hb13 : Below w.heap.size w w3 := below_run (HB1.out.alloc (by omega) _) hb3
  obtain ⟨b1, b2, b3, b4, b5, b6⟩ := row_facts s0
  have hv2 : MsgsAt w3 v L := by rw [← HL.out]; exact hv
  have S0 := Lib.hid s0
  have S1 := Lib.hid s1
  have S2 := Lib.hid s2
  have HPAR := Lib.hid hpar
  have HV := Lib.hid hv2
  have HB3 := Lib.hid hb13
  have HQN := Lib.hid (And.intro hQ hN')
  have hle3 := hb13.size
  have hne : ¬ w.heap.size + 1 = w.heap.size := by omega
  have CM := Lib.hid (fun W (hpw : RPar W (.slice xa xn xc) (.slice ya yn yc) (.slice za zn zc) t1) (hi : isId id = true) => rmuted_any xa ya za xn xc yn yc zn zc sr t1 id W hpw HOK.out.devs (ord_chk HOK.out.id HOK.out.q0 HOK.out.q1 (.inl rfl) (.inl hi)) HOK.out.q0 HOK.out.q1)
  rw [hQ, hN'] at CM
  clear a1 a2 a3 a4 a5 a6 hb3 s0 s1 s2 hpar hv hv2 hy hb13 hQ hN' CS
  go_upto_region 3 with fail
  have F4 : RowAt ((((((w3.setCell ⟨w.heap.size, 0, none⟩ (.slice xa xn xc)).setCell ⟨w.heap.size, 1, none⟩ (.slice ya yn yc)).setCell ⟨w.heap.size, 2, none⟩ (.int .u64 sr)).setCell ⟨w.heap.size, 3, none⟩ (.int .i64 Q)).setCell ⟨w.heap.size, 4, none⟩ (.slice za zn zc)).setCell ⟨w.heap.size, 5, none⟩ (.int .i64 N')) (w.heap.size) 86 #[.slice xa xn xc, .slice ya yn yc, .int .u64 sr, .int .i64 Q, .slice za zn zc, .int .i64 N'] ∧ Own6 w3 ((((((w3.setCell ⟨w.heap.size, 0, none⟩ (.slice xa xn xc)).setCell ⟨w.heap.size, 1, none⟩ (.slice ya yn yc)).setCell ⟨w.heap.size, 2, none⟩ (.int .u64 sr)).setCell ⟨w.heap.size, 3, none⟩ (.int .i64 Q)).setCell ⟨w.heap.size, 4, none⟩ (.slice za zn zc)).setCell ⟨w.heap.size, 5, none⟩ (.int .i64 N')) ∧ Below w.heap.size w ((((((w3.setCell ⟨w.heap.size, 0, none⟩ (.slice xa xn xc)).setCell ⟨w.heap.size, 1, none⟩ (.slice ya yn yc)).setCell ⟨w.heap.size, 2, none⟩ (.int .u64 sr)).setCell ⟨w.heap.size, 3, none⟩ (.int .i64 Q)).setCell ⟨w.heap.size, 4, none⟩ (.slice za zn zc)).setCell ⟨w.heap.size, 5, none⟩ (.int .i64 N')) ∧ RowAt ((((((w3.setCell ⟨w.heap.size, 0, none⟩ (.slice xa xn xc)).setCell ⟨w.heap.size, 1, none⟩ (.slice ya yn yc)).setCell ⟨w.heap.size, 2, none⟩ (.int .u64 sr)).setCell ⟨w.heap.size, 3, none⟩ (.int .i64 Q)).setCell ⟨w.heap.size, 4, none⟩ (.slice za zn zc)).setCell ⟨w.heap.size, 5, none⟩ (.int .i64 N')) (w.heap.size + 1) 86 #[.slice none 0 0, .slice none 0 0, .int .u64 0, .int .i64 0, .slice none 0 0, .int .i64 0] ∧ RowAt ((((((w3.setCell ⟨w.heap.size, 0, none⟩ (.slice xa xn xc)).setCell ⟨w.heap.size, 1, none⟩ (.slice ya yn yc)).setCell ⟨w.heap.size, 2, none⟩ (.int .u64 sr)).setCell ⟨w.heap.size, 3, none⟩ (.int .i64 Q)).setCell ⟨w.heap.size, 4, none⟩ (.slice za zn zc)).setCell ⟨w.heap.size, 5, none⟩ (.int .i64 N')) w1.heap.size 43 #[.int .u64 281474976710655, .int .u64 sr, .int .i64 t.seq, .int .i64 1, .int .i64 0, .string dd] := by
    have M0 : Mine w3 w.heap.size := ⟨_, S0.out, rfl, _, _, _, rfl⟩
    have h1 := RowAt.six (v0 := .slice xa xn xc) (v1 := .slice ya yn yc) (v2 := .int .u64 sr) (v3 := .int .i64 Q) (v4 := .slice za zn zc) (v5 := .int .i64 N') (S0.out)
    have h2 := own6_set (i := 5) (own6_set (i := 4) (own6_set (i := 3) (own6_set (i := 2) (own6_set (i := 1) (own6_set (i := 0) (own6_refl w3) M0 (.slice xa xn xc)) M0 (.slice ya yn yc)) M0 (.int .u64 sr)) M0 (.int .i64 Q)) M0 (.slice za zn zc)) M0 (.int .i64 N')
    have h4 := ((((((S1.out).far1 (g := w.heap.size) (i := 0) (u := .slice xa xn xc) hne).far1 (g := w.heap.size) (i := 1) (u := .slice ya yn yc) hne).far1 (g := w.heap.size) (i := 2) (u := .int .u64 sr) hne).far1 (g := w.heap.size) (i := 3) (u := .int .i64 Q) hne).far1 (g := w.heap.size) (i := 4) (u := .slice za zn zc) hne).far1 (g := w.heap.size) (i := 5) (u := .int .i64 N') hne
    have h5 := ((((((S2.out).far1 (g := w.heap.size) (i := 0) (u := .slice xa xn xc) hne2).far1 (g := w.heap.size) (i := 1) (u := .slice ya yn yc) hne2).far1 (g := w.heap.size) (i := 2) (u := .int .u64 sr) hne2).far1 (g := w.heap.size) (i := 3) (u := .int .i64 Q) hne2).far1 (g := w.heap.size) (i := 4) (u := .slice za zn zc) hne2).far1 (g := w.heap.size) (i := 5) (u := .int .i64 N') hne2
    refine ⟨h1, h2, ?_, h4, h5⟩
    have := HB3.out
    repeat' (first | (with_reducible assumption) | (with_reducible refine below_one ?_ (Nat.le_refl _)))
  generalize (((((w3.setCell ⟨w.heap.size, 0, none⟩ (.slice xa xn xc)).setCell ⟨w.heap.size, 1, none⟩ (.slice ya yn yc)).setCell ⟨w.heap.size, 2, none⟩ (.int .u64 sr)).setCell ⟨w.heap.size, 3, none⟩ (.int .i64 Q)).setCell ⟨w.heap.size, 4, none⟩ (.slice za zn zc)).setCell ⟨w.heap.size, 5, none⟩ (.int .i64 N') = w4 at F4 ⊢
  obtain ⟨t0, O4, hb4, t1', t2⟩ := F4
  have HP4 := Lib.hid (HPAR.out.six O4)
  have HV4 := Lib.hid (HV.out.six O4)
  obtain ⟨e1, e2, e3, e4, e5, e6⟩ := row_facts t0
  obtain ⟨l1, l2, l3, l4, l5, l6⟩ := row_facts t2
  have T0 := Lib.hid t0
  have T1 := Lib.hid t1'
  have HB4 := Lib.hid hb4
  clear O4 t0 t1' t2 hb4 b1 b2 b3 b4 b5 b6
  go_wp2_with fail
  refine (CU.out _ _ HV4.out).mono ?_
  rintro e w5 ⟨k', id', rfl, hh, hb5⟩
  have hh2 := hh.out
  rw [HP.out] at hh2
  obtain ⟨rfl, rfl⟩ := Prod.mk.inj hh2
  have HP5 := Lib.hid (HP4.out.run hb5)
  have HB5 := Lib.hid (below_run HB4.out hb5)
  have t0 := T0.out.run hb5
  have t1' := T1.out.run hb5
  obtain ⟨f1, f2, f3, f4, f5, f6⟩ := row_facts t0
  obtain ⟨g1, g2, g3, g4, g5, g6⟩ := row_facts t1'
  have U0 := Lib.hid t0
  have U1 := Lib.hid t1'
  have hle5 := HB5.out.size
  clear hh hh2 hb5 t0 t1' e1 e2 e3 e4 e5 e6 l1 l2 l3 l4 l5 l6 CU
  rcases HKN.out with hk0 | hk2 | hk1
  · have HE := Lib.hid (HW.out.1 hk0)
    obtain rfl : kk = 0 := hk0
    go_wp2
    have F : RowAt ((((((w5.setCell ⟨w.heap.size + 1, 0, none⟩ (.slice xa xn xc)).setCell ⟨w.heap.size + 1, 1, none⟩ (.slice ya yn yc)).setCell ⟨w.heap.size + 1, 2, none⟩ (.int .u64 sr)).setCell ⟨w.heap.size + 1, 3, none⟩ (.int .i64 Q)).setCell ⟨w.heap.size + 1, 4, none⟩ (.slice za zn zc)).setCell ⟨w.heap.size + 1, 5, none⟩ (.int .i64 N')) (w.heap.size + 1) 86 #[.slice xa xn xc, .slice ya yn yc, .int .u64 sr, .int .i64 Q, .slice za zn zc, .int .i64 N'] ∧ Own6 w5 ((((((w5.setCell ⟨w.heap.size + 1, 0, none⟩ (.slice xa xn xc)).setCell ⟨w.heap.size + 1, 1, none⟩ (.slice ya yn yc)).setCell ⟨w.heap.size + 1, 2, none⟩ (.int .u64 sr)).setCell ⟨w.heap.size + 1, 3, none⟩ (.int .i64 Q)).setCell ⟨w.heap.size + 1, 4, none⟩ (.slice za zn zc)).setCell ⟨w.heap.size + 1, 5, none⟩ (.int .i64 N')) ∧ Below w.heap.size w ((((((w5.setCell ⟨w.heap.size + 1, 0, none⟩ (.slice xa xn xc)).setCell ⟨w.heap.size + 1, 1, none⟩ (.slice ya yn yc)).setCell ⟨w.heap.size + 1, 2, none⟩ (.int .u64 sr)).setCell ⟨w.heap.size + 1, 3, none⟩ (.int .i64 Q)).setCell ⟨w.heap.size + 1, 4, none⟩ (.slice za zn zc)).setCell ⟨w.heap.size + 1, 5, none⟩ (.int .i64 N')) := by
      have M2 : Mine w5 (w.heap.size + 1) := ⟨_, U1.out, rfl, _, _, _, rfl⟩
      have h1 := RowAt.six (v0 := .slice xa xn xc) (v1 := .slice ya yn yc) (v2 := .int .u64 sr) (v3 := .int .i64 Q) (v4 := .slice za zn zc) (v5 := .int .i64 N') (U1.out)
      have h2 := own6_set (i := 5) (own6_set (i := 4) (own6_set (i := 3) (own6_set (i := 2) (own6_set (i := 1) (own6_set (i := 0) (own6_refl w5) M2 (.slice xa xn xc)) M2 (.slice ya yn yc)) M2 (.int .u64 sr)) M2 (.int .i64 Q)) M2 (.slice za zn zc)) M2 (.int .i64 N')
      refine ⟨h1, h2, ?_⟩
      have := HB5.out
      repeat' (first | (with_reducible assumption) | (with_reducible refine below_one ?_ (by omega)))
    generalize (((((w5.setCell ⟨w.heap.size + 1, 0, none⟩ (.slice xa xn xc)).setCell ⟨w.heap.size + 1, 1, none⟩ (.slice ya yn yc)).setCell ⟨w.heap.size + 1, 2, none⟩ (.int .u64 sr)).setCell ⟨w.heap.size + 1, 3, none⟩ (.int .i64 Q)).setCell ⟨w.heap.size + 1, 4, none⟩ (.slice za zn zc)).setCell ⟨w.heap.size + 1, 5, none⟩ (.int .i64 N') = wf at F ⊢
    obtain ⟨hr3, O, hbf⟩ := F
    rw [HE.out]
    refine bodyPost_ret (v := .tuple #[.agg #[.slice xa xn xc, .slice ya yn yc, .int .u64 sr, .int .i64 Q, .slice za zn zc, .int .i64 N'], .bool false, .bool true]) ?_ rfl ⟨_, rfl, ⟨xa, xn, xc, ya, yn, yc, za, zn, zc, ?_, HP5.out.six O⟩, hbf⟩
    · simp [results, Tryz.results61, go_sem, cell_fact hr3]
    · show _ = Value.agg (stA _ _ _ t1.seq _ (IntKind.i64.wrap t1.msgs)); rw [stA, HQN.out.1, HQN.out.2]
  · have HE := Lib.hid (HW.out.2.1 hk2)
    obtain rfl : kk = 2 := hk2
    go_wp2
    have F : RowAt ((((((w5.setCell ⟨w.heap.size + 1, 0, none⟩ (.slice xa xn xc)).setCell ⟨w.heap.size + 1, 1, none⟩ (.slice ya yn yc)).setCell ⟨w.heap.size + 1, 2, none⟩ (.int .u64 sr)).setCell ⟨w.heap.size + 1, 3, none⟩ (.int .i64 Q)).setCell ⟨w.heap.size + 1, 4, none⟩ (.slice za zn zc)).setCell ⟨w.heap.size + 1, 5, none⟩ (.int .i64 N')) (w.heap.size + 1) 86 #[.slice xa xn xc, .slice ya yn yc, .int .u64 sr, .int .i64 Q, .slice za zn zc, .int .i64 N'] ∧ Own6 w5 ((((((w5.setCell ⟨w.heap.size + 1, 0, none⟩ (.slice xa xn xc)).setCell ⟨w.heap.size + 1, 1, none⟩ (.slice ya yn yc)).setCell ⟨w.heap.size + 1, 2, none⟩ (.int .u64 sr)).setCell ⟨w.heap.size + 1, 3, none⟩ (.int .i64 Q)).setCell ⟨w.heap.size + 1, 4, none⟩ (.slice za zn zc)).setCell ⟨w.heap.size + 1, 5, none⟩ (.int .i64 N')) ∧ Below w.heap.size w ((((((w5.setCell ⟨w.heap.size + 1, 0, none⟩ (.slice xa xn xc)).setCell ⟨w.heap.size + 1, 1, none⟩ (.slice ya yn yc)).setCell ⟨w.heap.size + 1, 2, none⟩ (.int .u64 sr)).setCell ⟨w.heap.size + 1, 3, none⟩ (.int .i64 Q)).setCell ⟨w.heap.size + 1, 4, none⟩ (.slice za zn zc)).setCell ⟨w.heap.size + 1, 5, none⟩ (.int .i64 N')) := by
      have M2 : Mine w5 (w.heap.size + 1) := ⟨_, U1.out, rfl, _, _, _, rfl⟩
      have h1 := RowAt.six (v0 := .slice xa xn xc) (v1 := .slice ya yn yc) (v2 := .int .u64 sr) (v3 := .int .i64 Q) (v4 := .slice za zn zc) (v5 := .int .i64 N') (U1.out)
      have h2 := own6_set (i := 5) (own6_set (i := 4) (own6_set (i := 3) (own6_set (i := 2) (own6_set (i := 1) (own6_set (i := 0) (own6_refl w5) M2 (.slice xa xn xc)) M2 (.slice ya yn yc)) M2 (.int .u64 sr)) M2 (.int .i64 Q)) M2 (.slice za zn zc)) M2 (.int .i64 N')
      refine ⟨h1, h2, ?_⟩
      have := HB5.out
      repeat' (first | (with_reducible assumption) | (with_reducible refine below_one ?_ (by omega)))
    generalize (((((w5.setCell ⟨w.heap.size + 1, 0, none⟩ (.slice xa xn xc)).setCell ⟨w.heap.size + 1, 1, none⟩ (.slice ya yn yc)).setCell ⟨w.heap.size + 1, 2, none⟩ (.int .u64 sr)).setCell ⟨w.heap.size + 1, 3, none⟩ (.int .i64 Q)).setCell ⟨w.heap.size + 1, 4, none⟩ (.slice za zn zc)).setCell ⟨w.heap.size + 1, 5, none⟩ (.int .i64 N') = wf at F ⊢
    obtain ⟨hr3, O, hbf⟩ := F
    rw [HE.out]
    refine bodyPost_ret (v := .tuple #[.agg #[.slice xa xn xc, .slice ya yn yc, .int .u64 sr, .int .i64 Q, .slice za zn zc, .int .i64 N'], .bool false, .bool false]) ?_ rfl ⟨_, rfl, ⟨xa, xn, xc, ya, yn, yc, za, zn, zc, ?_, HP5.out.six O⟩, hbf⟩
    · simp [results, Tryz.results61, go_sem, cell_fact hr3]
    · show _ = Value.agg (stA _ _ _ t1.seq _ (IntKind.i64.wrap t1.msgs)); rw [stA, HQN.out.1, HQN.out.2]
  · have HE0 := Lib.hid (HW.out.2.2.1 hk1)
    have HE1 := Lib.hid (HW.out.2.2.2.1 hk1)
    have HE2 := Lib.hid (HW.out.2.2.2.2 hk1)
    have HID1 := HID.out hk1
    have CM1 := Lib.hid (CM.out w5 HP5.out HID1)
    obtain rfl : kk = 1 := hk1
    have CF := Lib.hid (fun W h => rholds_any (.slice za zn zc) t1.found id W h)
    have CK := Lib.hid (fun W h => rholds_any (.slice xa xn xc) t1.known id W h)
    by_cases hf : id ∈ t1.found
    · rw [show decide (id ∈ t1.found) = true from decide_eq_true hf] at CF
      have HE := Lib.hid (HE0.out (List.mem_append.2 (.inr hf)))
      clear hf CM1 CM CK HID1
      go_wp2_with fail
      refine (CF.out _ HP5.out.found).mono ?_
      rintro e w6 ⟨rfl, hb6⟩
      have HP6 := Lib.hid (HP5.out.run hb6)
      have HB6 := Lib.hid (below_run HB5.out hb6)
      have t0 := U0.out.run hb6
      have t1' := U1.out.run hb6
      obtain ⟨e1, e2, e3, e4, e5, e6⟩ := row_facts t0
      obtain ⟨l1, l2, l3, l4, l5, l6⟩ := row_facts t1'
      have V1 := Lib.hid t1'
      clear f1 f2 f3 f4 f5 f6 g1 g2 g3 g4 g5 g6 hb6 t0 t1'
      go_wp2
      have F : RowAt ((((((w6.setCell ⟨w.heap.size + 1, 0, none⟩ (.slice xa xn xc)).setCell ⟨w.heap.size + 1, 1, none⟩ (.slice ya yn yc)).setCell ⟨w.heap.size + 1, 2, none⟩ (.int .u64 sr)).setCell ⟨w.heap.size + 1, 3, none⟩ (.int .i64 Q)).setCell ⟨w.heap.size + 1, 4, none⟩ (.slice za zn zc)).setCell ⟨w.heap.size + 1, 5, none⟩ (.int .i64 N')) (w.heap.size + 1) 86 #[.slice xa xn xc, .slice ya yn yc, .int .u64 sr, .int .i64 Q, .slice za zn zc, .int .i64 N'] ∧ Own6 w6 ((((((w6.setCell ⟨w.heap.size + 1, 0, none⟩ (.slice xa xn xc)).setCell ⟨w.heap.size + 1, 1, none⟩ (.slice ya yn yc)).setCell ⟨w.heap.size + 1, 2, none⟩ (.int .u64 sr)).setCell ⟨w.heap.size + 1, 3, none⟩ (.int .i64 Q)).setCell ⟨w.heap.size + 1, 4, none⟩ (.slice za zn zc)).setCell ⟨w.heap.size + 1, 5, none⟩ (.int .i64 N')) ∧ Below w.heap.size w ((((((w6.setCell ⟨w.heap.size + 1, 0, none⟩ (.slice xa xn xc)).setCell ⟨w.heap.size + 1, 1, none⟩ (.slice ya yn yc)).setCell ⟨w.heap.size + 1, 2, none⟩ (.int .u64 sr)).setCell ⟨w.heap.size + 1, 3, none⟩ (.int .i64 Q)).setCell ⟨w.heap.size + 1, 4, none⟩ (.slice za zn zc)).setCell ⟨w.heap.size + 1, 5, none⟩ (.int .i64 N')) := by
        have M2 : Mine w6 (w.heap.size + 1) := ⟨_, V1.out, rfl, _, _, _, rfl⟩
        have h1 := RowAt.six (v0 := .slice xa xn xc) (v1 := .slice ya yn yc) (v2 := .int .u64 sr) (v3 := .int .i64 Q) (v4 := .slice za zn zc) (v5 := .int .i64 N') (V1.out)
        have h2 := own6_set (i := 5) (own6_set (i := 4) (own6_set (i := 3) (own6_set (i := 2) (own6_set (i := 1) (own6_set (i := 0) (own6_refl w6) M2 (.slice xa xn xc)) M2 (.slice ya yn yc)) M2 (.int .u64 sr)) M2 (.int .i64 Q)) M2 (.slice za zn zc)) M2 (.int .i64 N')
        refine ⟨h1, h2, ?_⟩
        have := HB6.out
        repeat' (first | (with_reducible assumption) | (with_reducible refine below_one ?_ (by omega)))
      generalize (((((w6.setCell ⟨w.heap.size + 1, 0, none⟩ (.slice xa xn xc)).setCell ⟨w.heap.size + 1, 1, none⟩ (.slice ya yn yc)).setCell ⟨w.heap.size + 1, 2, none⟩ (.int .u64 sr)).setCell ⟨w.heap.size + 1, 3, none⟩ (.int .i64 Q)).setCell ⟨w.heap.size + 1, 4, none⟩ (.slice za zn zc)).setCell ⟨w.heap.size + 1, 5, none⟩ (.int .i64 N') = wf at F ⊢
      obtain ⟨hr3, O, hbf⟩ := F
      rw [HE.out]
      refine bodyPost_ret (v := .tuple #[.agg #[.slice xa xn xc, .slice ya yn yc, .int .u64 sr, .int .i64 Q, .slice za zn zc, .int .i64 N'], .bool false, .bool false]) ?_ rfl ⟨_, rfl, ⟨xa, xn, xc, ya, yn, yc, za, zn, zc, ?_, HP6.out.six O⟩, hbf⟩
      · simp [results, Tryz.results61, go_sem, cell_fact hr3]
      · show _ = Value.agg (stA _ _ _ t1.seq _ (IntKind.i64.wrap t1.msgs)); rw [stA, HQN.out.1, HQN.out.2]
    · rw [show decide (id ∈ t1.found) = false from decide_eq_false hf] at CF
      have HNF := Lib.hid hf
      by_cases hkn : id ∈ t1.known
      · rw [show decide (id ∈ t1.known) = true from decide_eq_true hkn] at CK
        have HE := Lib.hid (HE0.out (List.mem_append.2 (.inl hkn)))
        clear hf hkn CM1 CM HID1
        go_wp2_with fail
        refine (CF.out _ HP5.out.found).mono ?_
        rintro e w6 ⟨rfl, hb6⟩
        have HP6 := Lib.hid (HP5.out.run hb6)
        have HB6 := Lib.hid (below_run HB5.out hb6)
        have t0 := U0.out.run hb6
        have t1' := U1.out.run hb6
        obtain ⟨e1, e2, e3, e4, e5, e6⟩ := row_facts t0
        clear f1 f2 f3 f4 f5 f6 g1 g2 g3 g4 g5 g6 hb6
        go_wp2_with fail
        refine (CK.out _ HP6.out.known).mono ?_
        rintro e w7 ⟨rfl, hb7⟩
        have HP7 := Lib.hid (HP6.out.run hb7)
        have HB7 := Lib.hid (below_run HB6.out hb7)
        have V0 := Lib.hid (t0.run hb7)
        have V1 := Lib.hid (t1'.run hb7)
        obtain ⟨f1, f2, f3, f4, f5, f6⟩ := row_facts V0.out
        obtain ⟨l1, l2, l3, l4, l5, l6⟩ := row_facts V1.out
        clear e1 e2 e3 e4 e5 e6 hb7 t0 t1'
        go_wp2
        have F : RowAt ((((((w7.setCell ⟨w.heap.size + 1, 0, none⟩ (.slice xa xn xc)).setCell ⟨w.heap.size + 1, 1, none⟩ (.slice ya yn yc)).setCell ⟨w.heap.size + 1, 2, none⟩ (.int .u64 sr)).setCell ⟨w.heap.size + 1, 3, none⟩ (.int .i64 Q)).setCell ⟨w.heap.size + 1, 4, none⟩ (.slice za zn zc)).setCell ⟨w.heap.size + 1, 5, none⟩ (.int .i64 N')) (w.heap.size + 1) 86 #[.slice xa xn xc, .slice ya yn yc, .int .u64 sr, .int .i64 Q, .slice za zn zc, .int .i64 N'] ∧ Own6 w7 ((((((w7.setCell ⟨w.heap.size + 1, 0, none⟩ (.slice xa xn xc)).setCell ⟨w.heap.size + 1, 1, none⟩ (.slice ya yn yc)).setCell ⟨w.heap.size + 1, 2, none⟩ (.int .u64 sr)).setCell ⟨w.heap.size + 1, 3, none⟩ (.int .i64 Q)).setCell ⟨w.heap.size + 1, 4, none⟩ (.slice za zn zc)).setCell ⟨w.heap.size + 1, 5, none⟩ (.int .i64 N')) ∧ Below w.heap.size w ((((((w7.setCell ⟨w.heap.size + 1, 0, none⟩ (.slice xa xn xc)).setCell ⟨w.heap.size + 1, 1, none⟩ (.slice ya yn yc)).setCell ⟨w.heap.size + 1, 2, none⟩ (.int .u64 sr)).setCell ⟨w.heap.size + 1, 3, none⟩ (.int .i64 Q)).setCell ⟨w.heap.size + 1, 4, none⟩ (.slice za zn zc)).setCell ⟨w.heap.size + 1, 5, none⟩ (.int .i64 N')) := by
          have M2 : Mine w7 (w.heap.size + 1) := ⟨_, V1.out, rfl, _, _, _, rfl⟩
          have h1 := RowAt.six (v0 := .slice xa xn xc) (v1 := .slice ya yn yc) (v2 := .int .u64 sr) (v3 := .int .i64 Q) (v4 := .slice za zn zc) (v5 := .int .i64 N') (V1.out)
          have h2 := own6_set (i := 5) (own6_set (i := 4) (own6_set (i := 3) (own6_set (i := 2) (own6_set (i := 1) (own6_set (i := 0) (own6_refl w7) M2 (.slice xa xn xc)) M2 (.slice ya yn yc)) M2 (.int .u64 sr)) M2 (.int .i64 Q)) M2 (.slice za zn zc)) M2 (.int .i64 N')
          refine ⟨h1, h2, ?_⟩
          have := HB7.out
          repeat' (first | (with_reducible assumption) | (with_reducible refine below_one ?_ (by omega)))
        generalize (((((w7.setCell ⟨w.heap.size + 1, 0, none⟩ (.slice xa xn xc)).setCell ⟨w.heap.size + 1, 1, none⟩ (.slice ya yn yc)).setCell ⟨w.heap.size + 1, 2, none⟩ (.int .u64 sr)).setCell ⟨w.heap.size + 1, 3, none⟩ (.int .i64 Q)).setCell ⟨w.heap.size + 1, 4, none⟩ (.slice za zn zc)).setCell ⟨w.heap.size + 1, 5, none⟩ (.int .i64 N') = wf at F ⊢
        obtain ⟨hr3, O, hbf⟩ := F
        rw [HE.out]
        refine bodyPost_ret (v := .tuple #[.agg #[.slice xa xn xc, .slice ya yn yc, .int .u64 sr, .int .i64 Q, .slice za zn zc, .int .i64 N'], .bool false, .bool false]) ?_ rfl ⟨_, rfl, ⟨xa, xn, xc, ya, yn, yc, za, zn, zc, ?_, HP7.out.six O⟩, hbf⟩
        · simp [results, Tryz.results61, go_sem, cell_fact hr3]
        · show _ = Value.agg (stA _ _ _ t1.seq _ (IntKind.i64.wrap t1.msgs)); rw [stA, HQN.out.1, HQN.out.2]
      · rw [show decide (id ∈ t1.known) = false from decide_eq_false hkn] at CK
        have hmem : id ∉ t1.known ++ t1.found := fun e => (List.mem_append.1 e).elim hkn hf
        have HE1 := Lib.hid (HE1.out hmem)
        have HE2 := Lib.hid (HE2.out hmem)
        have HOO := Lib.hid (order_ok (x := id) HOK.out (.inl rfl))
        obtain ⟨u, hu⟩ : ∃ u, orderS sr t1 2 id = u := ⟨_, rfl⟩
        have HFF : Hid (u.found = t1.found) := by show u.found = _; rw [← hu]; rfl
        rw [hu] at HE1 HE2 CM1 HOO
        have HFEW := Lib.hid HOO.out.few
        have CM2 : Hid (∀ W (hpw : RPar W (.slice xa xn xc) (.slice ya yn yc) (.slice za zn zc) t1), Calls Tryz.prog 51 #[.agg #[.slice xa xn xc, .slice ya yn yc, .int .u64 sr, .int .i64 Q, .slice za zn zc, .int .i64 N'], .int .u64 id] W fun e w' => ∃ y, e = .returned (.tuple #[y, .bool (orderB sr t1 2 id)]) ∧ RSt w' sr u y ∧ Below W.heap.size W w') := fun W hpw => by
          have := CM.out W hpw HID1
          rw [hu] at this
          exact this
        obtain ⟨q, hq⟩ : ∃ q, orderB sr t1 2 id = q := ⟨_, rfl⟩
        rw [hq] at CM2 HE1 HE2
        clear hf hkn CM1 CM HID1 hmem HE0 hu hq HOO
        go_wp2_with fail
        refine (CF.out _ HP5.out.found).mono ?_
        rintro e w6 ⟨rfl, hb6⟩
        have HP6 := Lib.hid (HP5.out.run hb6)
        have HB6 := Lib.hid (below_run HB5.out hb6)
        have t0 := U0.out.run hb6
        have t1' := U1.out.run hb6
        obtain ⟨e1, e2, e3, e4, e5, e6⟩ := row_facts t0
        clear f1 f2 f3 f4 f5 f6 g1 g2 g3 g4 g5 g6 hb6
        go_wp2_with fail
        refine (CK.out _ HP6.out.known).mono ?_
        rintro e w7 ⟨rfl, hb7⟩
        have HP7 := Lib.hid (HP6.out.run hb7)
        have HB7 := Lib.hid (below_run HB6.out hb7)
        have t0 := t0.run hb7
        have t1' := t1'.run hb7
        obtain ⟨f1, f2, f3, f4, f5, f6⟩ := row_facts t0
        clear e1 e2 e3 e4 e5 e6 hb7
        go_wp2_with fail
        refine (CM2.out _ HP7.out).mono ?_
        rintro e w8 ⟨y2, rfl, hy2, hb8⟩
        obtain ⟨oa, on, oc, pa, pn, pc, qa, qn, qc, rfl, hpar2⟩ := hy2
        obtain ⟨Q2, hQ2⟩ : ∃ Q, u.seq = Q := ⟨_, rfl⟩
        obtain ⟨N2, hN2⟩ : ∃ N', IntKind.i64.wrap (u.msgs : Int) = N' := ⟨_, rfl⟩
        rw [stA, hQ2, hN2]
        have V0 := Lib.hid (t0.run hb8)
        have V1 := Lib.hid (t1'.run hb8)
        have HB8 := Lib.hid (below_run HB7.out hb8)
        have HPA2 := Lib.hid hpar2
        have HQN2 := Lib.hid (And.intro hQ2 hN2)
        obtain ⟨e1, e2, e3, e4, e5, e6⟩ := row_facts V0.out
        have hle8 := HB8.out.size
        clear f1 f2 f3 f4 f5 f6 hb8 hpar2 hQ2 hN2 CM2 CF CK t0 t1'
        go_upto_region 9 with fail
        have F9 : RowAt ((((((w8.setCell ⟨w.heap.size, 0, none⟩ (.slice oa on oc)).setCell ⟨w.heap.size, 1, none⟩ (.slice pa pn pc)).setCell ⟨w.heap.size, 2, none⟩ (.int .u64 sr)).setCell ⟨w.heap.size, 3, none⟩ (.int .i64 Q2)).setCell ⟨w.heap.size, 4, none⟩ (.slice qa qn qc)).setCell ⟨w.heap.size, 5, none⟩ (.int .i64 N2)) (w.heap.size) 86 #[.slice oa on oc, .slice pa pn pc, .int .u64 sr, .int .i64 Q2, .slice qa qn qc, .int .i64 N2] ∧ Own6 w8 ((((((w8.setCell ⟨w.heap.size, 0, none⟩ (.slice oa on oc)).setCell ⟨w.heap.size, 1, none⟩ (.slice pa pn pc)).setCell ⟨w.heap.size, 2, none⟩ (.int .u64 sr)).setCell ⟨w.heap.size, 3, none⟩ (.int .i64 Q2)).setCell ⟨w.heap.size, 4, none⟩ (.slice qa qn qc)).setCell ⟨w.heap.size, 5, none⟩ (.int .i64 N2)) ∧ Below w.heap.size w ((((((w8.setCell ⟨w.heap.size, 0, none⟩ (.slice oa on oc)).setCell ⟨w.heap.size, 1, none⟩ (.slice pa pn pc)).setCell ⟨w.heap.size, 2, none⟩ (.int .u64 sr)).setCell ⟨w.heap.size, 3, none⟩ (.int .i64 Q2)).setCell ⟨w.heap.size, 4, none⟩ (.slice qa qn qc)).setCell ⟨w.heap.size, 5, none⟩ (.int .i64 N2)) ∧ RowAt ((((((w8.setCell ⟨w.heap.size, 0, none⟩ (.slice oa on oc)).setCell ⟨w.heap.size, 1, none⟩ (.slice pa pn pc)).setCell ⟨w.heap.size, 2, none⟩ (.int .u64 sr)).setCell ⟨w.heap.size, 3, none⟩ (.int .i64 Q2)).setCell ⟨w.heap.size, 4, none⟩ (.slice qa qn qc)).setCell ⟨w.heap.size, 5, none⟩ (.int .i64 N2)) (w.heap.size + 1) 86 #[.slice none 0 0, .slice none 0 0, .int .u64 0, .int .i64 0, .slice none 0 0, .int .i64 0] := by
          have M0 : Mine w8 w.heap.size := ⟨_, V0.out, rfl, _, _, _, rfl⟩
          have h1 := RowAt.six (v0 := .slice oa on oc) (v1 := .slice pa pn pc) (v2 := .int .u64 sr) (v3 := .int .i64 Q2) (v4 := .slice qa qn qc) (v5 := .int .i64 N2) (V0.out)
          have h2 := own6_set (i := 5) (own6_set (i := 4) (own6_set (i := 3) (own6_set (i := 2) (own6_set (i := 1) (own6_set (i := 0) (own6_refl w8) M0 (.slice oa on oc)) M0 (.slice pa pn pc)) M0 (.int .u64 sr)) M0 (.int .i64 Q2)) M0 (.slice qa qn qc)) M0 (.int .i64 N2)
          have h4 := ((((((V1.out).far1 (g := w.heap.size) (i := 0) (u := .slice oa on oc) hne).far1 (g := w.heap.size) (i := 1) (u := .slice pa pn pc) hne).far1 (g := w.heap.size) (i := 2) (u := .int .u64 sr) hne).far1 (g := w.heap.size) (i := 3) (u := .int .i64 Q2) hne).far1 (g := w.heap.size) (i := 4) (u := .slice qa qn qc) hne).far1 (g := w.heap.size) (i := 5) (u := .int .i64 N2) hne
          refine ⟨h1, h2, ?_, h4⟩
          have := HB8.out
          repeat' (first | (with_reducible assumption) | (with_reducible refine below_one ?_ (Nat.le_refl _)))
        generalize (((((w8.setCell ⟨w.heap.size, 0, none⟩ (.slice oa on oc)).setCell ⟨w.heap.size, 1, none⟩ (.slice pa pn pc)).setCell ⟨w.heap.size, 2, none⟩ (.int .u64 sr)).setCell ⟨w.heap.size, 3, none⟩ (.int .i64 Q2)).setCell ⟨w.heap.size, 4, none⟩ (.slice qa qn qc)).setCell ⟨w.heap.size, 5, none⟩ (.int .i64 N2) = w9 at F9 ⊢
        obtain ⟨t0, O9, hb9, t1'⟩ := F9
        have HP9 := Lib.hid (HPA2.out.six O9)
        have HB9 := Lib.hid hb9
        obtain ⟨f1, f2, f3, f4, f5, f6⟩ := row_facts t0
        obtain ⟨l1, l2, l3, l4, l5, l6⟩ := row_facts t1'
        have W0 := Lib.hid t0
        have W1 := Lib.hid t1'
        have hle9 := hb9.size
        clear O9 t0 t1' hb9 e1 e2 e3 e4 e5 e6
        cases q with
        | false =>
          have HE := Lib.hid (HE2.out rfl)
          go_wp2
          have F : RowAt ((((((w9.setCell ⟨w.heap.size + 1, 0, none⟩ (.slice oa on oc)).setCell ⟨w.heap.size + 1, 1, none⟩ (.slice pa pn pc)).setCell ⟨w.heap.size + 1, 2, none⟩ (.int .u64 sr)).setCell ⟨w.heap.size + 1, 3, none⟩ (.int .i64 Q2)).setCell ⟨w.heap.size + 1, 4, none⟩ (.slice qa qn qc)).setCell ⟨w.heap.size + 1, 5, none⟩ (.int .i64 N2)) (w.heap.size + 1) 86 #[.slice oa on oc, .slice pa pn pc, .int .u64 sr, .int .i64 Q2, .slice qa qn qc, .int .i64 N2] ∧ Own6 w9 ((((((w9.setCell ⟨w.heap.size + 1, 0, none⟩ (.slice oa on oc)).setCell ⟨w.heap.size + 1, 1, none⟩ (.slice pa pn pc)).setCell ⟨w.heap.size + 1, 2, none⟩ (.int .u64 sr)).setCell ⟨w.heap.size + 1, 3, none⟩ (.int .i64 Q2)).setCell ⟨w.heap.size + 1, 4, none⟩ (.slice qa qn qc)).setCell ⟨w.heap.size + 1, 5, none⟩ (.int .i64 N2)) ∧ Below w.heap.size w ((((((w9.setCell ⟨w.heap.size + 1, 0, none⟩ (.slice oa on oc)).setCell ⟨w.heap.size + 1, 1, none⟩ (.slice pa pn pc)).setCell ⟨w.heap.size + 1, 2, none⟩ (.int .u64 sr)).setCell ⟨w.heap.size + 1, 3, none⟩ (.int .i64 Q2)).setCell ⟨w.heap.size + 1, 4, none⟩ (.slice qa qn qc)).setCell ⟨w.heap.size + 1, 5, none⟩ (.int .i64 N2)) := by
            have M2 : Mine w9 (w.heap.size + 1) := ⟨_, W1.out, rfl, _, _, _, rfl⟩
            have h1 := RowAt.six (v0 := .slice oa on oc) (v1 := .slice pa pn pc) (v2 := .int .u64 sr) (v3 := .int .i64 Q2) (v4 := .slice qa qn qc) (v5 := .int .i64 N2) (W1.out)
            have h2 := own6_set (i := 5) (own6_set (i := 4) (own6_set (i := 3) (own6_set (i := 2) (own6_set (i := 1) (own6_set (i := 0) (own6_refl w9) M2 (.slice oa on oc)) M2 (.slice pa pn pc)) M2 (.int .u64 sr)) M2 (.int .i64 Q2)) M2 (.slice qa qn qc)) M2 (.int .i64 N2)
            refine ⟨h1, h2, ?_⟩
            have := HB9.out
            repeat' (first | (with_reducible assumption) | (with_reducible refine below_one ?_ (by omega)))
          generalize (((((w9.setCell ⟨w.heap.size + 1, 0, none⟩ (.slice oa on oc)).setCell ⟨w.heap.size + 1, 1, none⟩ (.slice pa pn pc)).setCell ⟨w.heap.size + 1, 2, none⟩ (.int .u64 sr)).setCell ⟨w.heap.size + 1, 3, none⟩ (.int .i64 Q2)).setCell ⟨w.heap.size + 1, 4, none⟩ (.slice qa qn qc)).setCell ⟨w.heap.size + 1, 5, none⟩ (.int .i64 N2) = wf at F ⊢
          obtain ⟨hr3, O, hbf⟩ := F
          rw [HE.out]
          refine bodyPost_ret (v := .tuple #[.agg #[.slice oa on oc, .slice pa pn pc, .int .u64 sr, .int .i64 Q2, .slice qa qn qc, .int .i64 N2], .bool false, .bool false]) ?_ rfl ⟨_, rfl, ⟨oa, on, oc, pa, pn, pc, qa, qn, qc, ?_, HP9.out.six O⟩, hbf⟩
          · simp [results, Tryz.results61, go_sem, cell_fact hr3]
          · show _ = Value.agg (stA _ _ _ u.seq _ (IntKind.i64.wrap u.msgs)); rw [stA, HQN2.out.1, HQN2.out.2]
        | true =>
          have HE := Lib.hid (HE1.out rfl)
          obtain ⟨i0, hi, hz0, hz1, hz2⟩ := info_parts Tryz.info_u64
          have own0 := World.ownsRow_made (e := 23) (size := 1) w9 #[] 0 (Nat.le_refl _) (Nat.zero_le _) rfl
          have hb9a : Below w9.heap.size w9 (w9.alloc (.cells #[] 23)) := (Below.refl _ _).alloc (Nat.le_refl _) _
          have hfw : u.found.length ≤ 64 := by have := HFEW.out; omega
          have hfd := HP9.out.found.run hb9a
          go_wp2_with (at_builtin; refine wpList_append_ids rfl (.tmp 59) (.tmp 62) rfl w9.heap.size _ 0 [] rfl own0 (.slice qa qn qc) u.found rfl hfd HP9.out.fz (by omega) (by simp) ?_)
          intro v1 w10 hown10 hg10
          have hb10 : Below w9.heap.size w9 w10 := below_grown hb9a own0 (Nat.le_refl _) hg10 (by simp)
          have hz10 := hb10.size
          have own1 := own_run hown10 ((Below.refl _ _).alloc (Nat.le_refl _) (.cells #[.int .u64 id] 23))
          have hnew : RowAt (w10.alloc (.cells #[.int .u64 id] 23)) w10.heap.size 23 #[.int .u64 id] := RowAt.new _ _ _
          clear hg10 own0 hb9a hfd
          go_wp2_with (at_builtin; refine wpList_append_own _ rfl (.tmp 63) (.tmp 65) 30 rfl w9.heap.size 23 i0 _ 1 8 Tryz.underlying30 hi hz0 hz1 hz2 rfl (by decide) _ _ _ rfl own1 ⟨w10.heap.size, 0, none⟩ 1 1 [.int .u64 id] rfl rfl ?c1 ?c2 ?c3 ?c4 ?c5 ?_)
          case c1 =>
            intro j u hj
            match j, hj with
            | 0, hj =>
              simp at hj
              subst hj
              exact (row_facts hnew).1 0
          case c2 => intro u hu; simp at hu; subst hu; rfl
          case c3 => unfold maxLen; omega
          case c4 => omega
          case c5 => simp; omega
          · intro v2 w11 hown11 hg11 _
            have hb11 : Below w9.heap.size w9 w11 := below_grown (hb10.alloc (by omega) _) own1 (Nat.le_refl _) hg11 (by simp; omega)
            have X0 := Lib.hid (W0.out.run hb11)
            have X1 := Lib.hid (W1.out.run hb11)
            have HB11 := Lib.hid (below_run HB9.out hb11)
            have hf11 : IdsAt w11 v2 (u.found ++ [id]) := by
              refine own_ids (T := 23) (n := u.found.length + 1) (B := w9.heap.size) ?_ (by simp) (by omega)
              have e : u64L (u.found ++ [id]) = u64L u.found ++ [.int .u64 id] := by simp [u64L]
              rw [e]
              exact hown11
            have HP11 : Hid (RPar w11 (.slice oa on oc) (.slice pa pn pc) v2 { u with found := u.found ++ [id] }) := ⟨HP9.out.known.run hb11, HP9.out.kty.run hb11, HP9.out.devs.run hb11, hf11, typed_own hown11, HP9.out.kz, nilok_own hown11⟩
            obtain ⟨ga, gn, gc, rfl⟩ : ∃ a k c, v2 = .slice a k c := by
              rcases hown11.2 with ⟨rfl, _⟩ | ⟨g, cap, cur, rfl, _⟩
              · exact ⟨_, _, _, rfl⟩
              · exact ⟨_, _, _, rfl⟩
            obtain ⟨e1, e2, e3, e4, e5, e6⟩ := row_facts X0.out
            obtain ⟨g1, g2, g3, g4, g5, g6⟩ := row_facts X1.out
            have hle11 := HB11.out.size
            clear hf11 hown11 hg11 own1 hnew hown10 hb10 hb11 f1 f2 f3 f4 f5 f6 l1 l2 l3 l4 l5 l6
            go_upto_region 11 with fail
            have F12 : RowAt (w11.setCell ⟨w.heap.size, 4, none⟩ (.slice ga gn gc)) w.heap.size 86 #[.slice oa on oc, .slice pa pn pc, .int .u64 sr, .int .i64 Q2, .slice ga gn gc, .int .i64 N2] ∧ Own6 w11 (w11.setCell ⟨w.heap.size, 4, none⟩ (.slice ga gn gc)) ∧ Below w.heap.size w (w11.setCell ⟨w.heap.size, 4, none⟩ (.slice ga gn gc)) ∧ RowAt (w11.setCell ⟨w.heap.size, 4, none⟩ (.slice ga gn gc)) (w.heap.size + 1) 86 #[.slice none 0 0, .slice none 0 0, .int .u64 0, .int .i64 0, .slice none 0 0, .int .i64 0] :=
              ⟨RowAt.set X0.out rfl, own6_set (own6_refl _) ⟨_, X0.out, rfl, _, _, _, rfl⟩ _, below_one HB11.out (Nat.le_refl _), X1.out.far1 hne⟩
            generalize w11.setCell ⟨w.heap.size, 4, none⟩ (.slice ga gn gc) = w12 at F12 ⊢
            obtain ⟨t0, O12, hb12, t1'⟩ := F12
            have HP12 := Lib.hid (HP11.out.six O12)
            have HB12 := Lib.hid hb12
            have Y1 := Lib.hid t1'
            obtain ⟨f1, f2, f3, f4, f5, f6⟩ := row_facts t0
            obtain ⟨l1, l2, l3, l4, l5, l6⟩ := row_facts t1'
            have hle12 := hb12.size
            clear O12 t0 t1' hb12 e1 e2 e3 e4 e5 e6 g1 g2 g3 g4 g5 g6
            go_wp2
            have F : RowAt ((((((w12.setCell ⟨w.heap.size + 1, 0, none⟩ (.slice oa on oc)).setCell ⟨w.heap.size + 1, 1, none⟩ (.slice pa pn pc)).setCell ⟨w.heap.size + 1, 2, none⟩ (.int .u64 sr)).setCell ⟨w.heap.size + 1, 3, none⟩ (.int .i64 Q2)).setCell ⟨w.heap.size + 1, 4, none⟩ (.slice ga gn gc)).setCell ⟨w.heap.size + 1, 5, none⟩ (.int .i64 N2)) (w.heap.size + 1) 86 #[.slice oa on oc, .slice pa pn pc, .int .u64 sr, .int .i64 Q2, .slice ga gn gc, .int .i64 N2] ∧ Own6 w12 ((((((w12.setCell ⟨w.heap.size + 1, 0, none⟩ (.slice oa on oc)).setCell ⟨w.heap.size + 1, 1, none⟩ (.slice pa pn pc)).setCell ⟨w.heap.size + 1, 2, none⟩ (.int .u64 sr)).setCell ⟨w.heap.size + 1, 3, none⟩ (.int .i64 Q2)).setCell ⟨w.heap.size + 1, 4, none⟩ (.slice ga gn gc)).setCell ⟨w.heap.size + 1, 5, none⟩ (.int .i64 N2)) ∧ Below w.heap.size w ((((((w12.setCell ⟨w.heap.size + 1, 0, none⟩ (.slice oa on oc)).setCell ⟨w.heap.size + 1, 1, none⟩ (.slice pa pn pc)).setCell ⟨w.heap.size + 1, 2, none⟩ (.int .u64 sr)).setCell ⟨w.heap.size + 1, 3, none⟩ (.int .i64 Q2)).setCell ⟨w.heap.size + 1, 4, none⟩ (.slice ga gn gc)).setCell ⟨w.heap.size + 1, 5, none⟩ (.int .i64 N2)) := by
              have M2 : Mine w12 (w.heap.size + 1) := ⟨_, Y1.out, rfl, _, _, _, rfl⟩
              have h1 := RowAt.six (v0 := .slice oa on oc) (v1 := .slice pa pn pc) (v2 := .int .u64 sr) (v3 := .int .i64 Q2) (v4 := .slice ga gn gc) (v5 := .int .i64 N2) (Y1.out)
              have h2 := own6_set (i := 5) (own6_set (i := 4) (own6_set (i := 3) (own6_set (i := 2) (own6_set (i := 1) (own6_set (i := 0) (own6_refl w12) M2 (.slice oa on oc)) M2 (.slice pa pn pc)) M2 (.int .u64 sr)) M2 (.int .i64 Q2)) M2 (.slice ga gn gc)) M2 (.int .i64 N2)
              refine ⟨h1, h2, ?_⟩
              have := HB12.out
              repeat' (first | (with_reducible assumption) | (with_reducible refine below_one ?_ (by omega)))
            generalize (((((w12.setCell ⟨w.heap.size + 1, 0, none⟩ (.slice oa on oc)).setCell ⟨w.heap.size + 1, 1, none⟩ (.slice pa pn pc)).setCell ⟨w.heap.size + 1, 2, none⟩ (.int .u64 sr)).setCell ⟨w.heap.size + 1, 3, none⟩ (.int .i64 Q2)).setCell ⟨w.heap.size + 1, 4, none⟩ (.slice ga gn gc)).setCell ⟨w.heap.size + 1, 5, none⟩ (.int .i64 N2) = wf at F ⊢
            obtain ⟨hr3, O, hbf⟩ := F
            rw [HE.out, ← HFF.out]
            refine bodyPost_ret (v := .tuple #[.agg #[.slice oa on oc, .slice pa pn pc, .int .u64 sr, .int .i64 Q2, .slice ga gn gc, .int .i64 N2], .bool true, .bool false]) ?_ rfl ⟨_, rfl, ⟨oa, on, oc, pa, pn, pc, ga, gn, gc, ?_, HP12.out.six O⟩, hbf⟩
            · simp [results, Tryz.results61, go_sem, cell_fact hr3]
            · show _ = Value.agg (stA _ _ _ u.seq _ (IntKind.i64.wrap u.msgs)); rw [stA, HQN2.out.1, HQN2.out.2]
end Go.Proofs.YtiemdccjphdbmaaGreat
