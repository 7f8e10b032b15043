/-
  The reference's Find.
-/
import Derived.Test.YtiemdccjphdbmaaGreatFe
namespace Go.Proofs.YtiemdccjphdbmaaGreat
open Go.RowKit

set_option maxHeartbeats 4000000 in
set_option maxRecDepth 100000 in
theorem rfind_any (v : Value) (l : List Dev) (src : Int) (w : World) (hv : DevsAt w v l) (hlb : ∀ d ∈ l, d.lb.size ≤ 9223372036854775807) :
    Calls Tryz.prog 21 #[v, .int .u64 src] w (FindPost (findE l src) (findU l src) w) := by
  have hv' := hv.alloc (.cells #[.slice none 0 0, .int .i64 0] 36)
  have hb0 : Below w.heap.size w (w.alloc (.cells #[.slice none 0 0, .int .i64 0] 36)) := (Below.refl _ _).alloc (Nat.le_refl _) _
  have hz0 : RowAt (w.alloc (.cells #[.slice none 0 0, .int .i64 0] 36)) w.heap.size 36 #[.slice none 0 0, .int .i64 0] := RowAt.new _ _ _
  obtain ⟨n, hn⟩ : ∃ n, devsE l = n := ⟨_, rfl⟩
  have C := Lib.hid (devs_is n _ l _ hv' hlb hn)
  have HV := Lib.hid hv'
  have HN := Lib.hid hn
  have HB0 := Lib.hid hb0
  have HZ0 := Lib.hid hz0
  clear hv hv' hlb hn hb0 hz0
  go_enter Tryz.func21, Tryz.ntmps21
  go_wp2_with fail
  refine C.out.mono ?_
  rintro e w1 ⟨rfl, hb1⟩
  have hz1 := HZ0.out.run hb1
  have HV1 := Lib.hid (HV.out.run hb1)
  have hbw := below_run HB0.out hb1
  obtain ⟨x1, x2, x3, x4, x5, x6⟩ := row_facts hz1
  have HB1 := Lib.hid hbw
  have HZ1 := Lib.hid hz1
  clear hb1 hz1 hbw HV C
  by_cases z : n = 0
  · subst z
    obtain ⟨q, hq⟩ : ∃ q, isId src = q := ⟨_, rfl⟩
    have CS := Lib.hid (Is_is q src hq)
    cases q with
    | false =>
      have hB : beginE l src 0 = 2 := by rw [beginE, if_neg (not_not_intro HN.out), if_pos (.inl hq)]
      have HE := Lib.hid (show findE l src = 2 from hB)
      have HU := Lib.hid (show findU l src = zeroS by rw [findU, if_neg (by rw [HE.out]; decide)])
      clear hB hq
      go_wp2_with fail
      refine (CS.out _).mono ?_
      rintro e w2 ⟨rfl, rfl⟩
      go_wp2
      rw [HE.out, HU.out]
      refine bodyPost_ret (v := .tuple #[.slice none 0 0, .agg #[.slice none 0 0, .int .i64 0], .int .i64 2]) ?_ rfl (find_bad (by have := HB1.out; (repeat' (first | (with_reducible exact Below.refl _ _) | (with_reducible assumption) | (with_reducible refine below_run ?_ (by assumption)) | (with_reducible refine below_of_upd ?_ (by assumption) ?_) | (with_reducible refine below_drewN ?_ _) | (with_reducible refine Below.drew ?_) | (with_reducible refine below_seven ?_ ?_) | (with_reducible refine below_six ?_ ?_) | (with_reducible refine below_one ?_ ?_) | (with_reducible refine Below.alloc ?_ ?_ _) | (with_reducible refine below_after ?_ ?_ (by assumption)) | (show _ ≤ _; first | omega | (simp; done) | (simp; omega))))))
      simp [results, Tryz.results21, go_sem, *]
    | true =>
      have hB : beginE l src 0 = 0 := by rw [beginE, if_neg (not_not_intro HN.out), if_neg (by rw [hq]; simp)]
      have hok := start_ok hB
      have HE := Lib.hid (show findE l src = 0 from hB)
      have HU := Lib.hid (show findU l src = searchS src 48 1 281474976710654 (unmS src l) by rw [findU, if_pos HE.out])
      have CU := Lib.hid (runmuted_any v l src w1 HV1.out hok)
      have hok1 : Sok src (unmS src l) := order_ok hok (.inr rfl)
      have CA := Lib.hid (fun ka da fa kn kc dn dc fn fc W hp => searched_any src 48 ka da fa kn kc dn dc fn fc 1 281474976710654 (unmS src l) W all_in.1 all_in.2.1 all_in.2.2.1 all_in.2.2.2 hok1 hp)
      obtain ⟨t1, ht1⟩ : ∃ t, unmS src l = t := ⟨_, rfl⟩
      rw [ht1] at CU CA HU
      obtain ⟨u, hu⟩ : ∃ u, searchS src 48 1 281474976710654 t1 = u := ⟨_, rfl⟩
      rw [hu] at CA HU
      obtain ⟨Q1, hQ1⟩ : ∃ Q, t1.seq = Q := ⟨_, rfl⟩
      obtain ⟨N1, hN1⟩ : ∃ N, IntKind.i64.wrap (t1.msgs : Int) = N := ⟨_, rfl⟩
      rw [hQ1, hN1] at CA
      have HQN1 := Lib.hid (And.intro hQ1 hN1)
      clear hB hq hok hok1 ht1 hu hQ1 hN1
      go_wp2_with fail
      refine (CS.out _).mono ?_
      rintro e w2 ⟨rfl, rfl⟩
      go_wp2_with fail
      refine CU.out.mono ?_
      rintro e w4 ⟨y, rfl, hy, hb4⟩
      obtain ⟨ka, kn, kc, da, dn, dc, fa, fn, fc, rfl, hpar4⟩ := hy
      rw [stA, HQN1.out.1, HQN1.out.2]
      have HZ4 := Lib.hid (HZ1.out.run hb4)
      have HB4 := Lib.hid (below_run HB1.out hb4)
      have HP4 := Lib.hid hpar4
      clear hb4 hpar4 x1 x2 x3 x4 x5 x6 HZ1 HB1 CU CS
      go_wp2_with fail
      refine (CA.out ka da fa kn kc dn dc fn fc _ HP4.out).mono ?_
      rintro e w2 ⟨y, rfl, hy, hb2⟩
      have hz2 := HZ4.out.run hb2
      have hbw2 := below_run HB4.out hb2
      obtain ⟨xa, xn, xc, ya, yn, yc, za, zn, zc, rfl, hpar⟩ := hy
      obtain ⟨Q, hQ⟩ : ∃ Q, u.seq = Q := ⟨_, rfl⟩
      obtain ⟨N, hN⟩ : ∃ N, IntKind.i64.wrap (u.msgs : Int) = N := ⟨_, rfl⟩
      rw [stA, hQ, hN]
      have HQN := Lib.hid (And.intro hQ hN)
      have HPAR := Lib.hid hpar
      have HZ2 := Lib.hid hz2
      have HB2 := Lib.hid hbw2
      have hle2 := hbw2.size
      have hlt2 := lt_of_block hz2
      have hne : ¬ w.heap.size = w2.heap.size := by omega
      clear hb2 hz2 hbw2 hpar hQ hN CA
      go_upto_region 7 with fail
      have F : RowAt ((w2.alloc (.cells #[.slice xa xn xc, .slice ya yn yc, .int .u64 src, .int .i64 Q, .slice za zn zc, .int .i64 N] 86))) (w2.heap.size) 86 #[.slice xa xn xc, .slice ya yn yc, .int .u64 src, .int .i64 Q, .slice za zn zc, .int .i64 N] ∧ Below w.heap.size w ((w2.alloc (.cells #[.slice xa xn xc, .slice ya yn yc, .int .u64 src, .int .i64 Q, .slice za zn zc, .int .i64 N] 86))) ∧ RowAt ((w2.alloc (.cells #[.slice xa xn xc, .slice ya yn yc, .int .u64 src, .int .i64 Q, .slice za zn zc, .int .i64 N] 86))) w.heap.size 36 #[.slice none 0 0, .int .i64 0] ∧ RPar ((w2.alloc (.cells #[.slice xa xn xc, .slice ya yn yc, .int .u64 src, .int .i64 Q, .slice za zn zc, .int .i64 N] 86))) (.slice xa xn xc) (.slice ya yn yc) (.slice za zn zc) u := ⟨RowAt.new _ _ _, HB2.out.alloc hle2 _, HZ2.out.alloc _, HPAR.out.run ((Below.refl _ _).alloc (Nat.le_refl _) _)⟩
      generalize (w2.alloc (.cells #[.slice xa xn xc, .slice ya yn yc, .int .u64 src, .int .i64 Q, .slice za zn zc, .int .i64 N] 86)) = w3 at F ⊢
      obtain ⟨hr3, hbf, hz3, hp3⟩ := F
      have HP3 := Lib.hid hp3
      generalize w2.heap.size = K at hr3 hne hle2 ⊢
      have c1 : w3.cell? ⟨K, 1, none⟩ = some (.slice ya yn yc) := cell_fact hr3 1
      have c4 : w3.cell? ⟨K, 4, none⟩ = some (.slice za zn zc) := cell_fact hr3 4
      have c5 : w3.cell? ⟨K, 5, none⟩ = some (.int .i64 N) := cell_fact hr3 5
      obtain ⟨y1, y2, y3, y4, y5, y6⟩ := row_facts hz3
      have P := Lib.hid (rparts_two (u1 := .slice za zn zc) (u2 := .int .i64 N) hz3 HP3.out)
      have HZ3 := Lib.hid hz3
      have HBF := Lib.hid hbf
      have hlk := lt_of_block hr3
      clear hbf hz3 hp3 HPAR hr3
      go_region_held3 (fun w' => w'.cell? ⟨K, 1, none⟩ = some (.slice ya yn yc) ∧ w'.cell? ⟨K, 4, none⟩ = some (.slice za zn zc) ∧ w'.cell? ⟨K, 5, none⟩ = some (.int .i64 N)) (go_keep) (fail)
      all_goals go_wp2
      all_goals
        rw [HE.out, HU.out]
        obtain ⟨p1, p2⟩ := P.out
        have hr4 : RowAt ((w3.setCell ⟨w.heap.size, 0, none⟩ (.slice za zn zc)).setCell ⟨w.heap.size, 1, none⟩ (.int .i64 N)) w.heap.size 36 #[.slice za zn zc, .int .i64 N] := RowAt.set (RowAt.set HZ3.out rfl) rfl
        refine bodyPost_ret (v := .tuple #[.slice ya yn yc, .agg #[.slice za zn zc, .int .i64 N], .int .i64 0]) ?_ rfl ⟨_, _, by rw [HQN.out.2], p1, p2, Below.drew (below_one (below_one HBF.out (Nat.le_refl _)) (Nat.le_refl _))⟩
        simp [results, Tryz.results21, go_sem, cell_fact hr4]
  · have e9 : (n != 0) = true := by simpa using z
    have hB : beginE l src 0 = n := by rw [beginE, if_pos (by rw [HN.out]; exact z), HN.out]
    have HE := Lib.hid (show findE l src = n from hB)
    have HU := Lib.hid (show findU l src = zeroS by rw [findU, if_neg (by rw [HE.out]; exact z)])
    clear z hB
    go_wp2
    rw [HE.out, HU.out]
    refine bodyPost_ret (v := .tuple #[.slice none 0 0, .agg #[.slice none 0 0, .int .i64 0], .int .i64 n]) ?_ rfl (find_bad (by have := HB1.out; (repeat' (first | (with_reducible exact Below.refl _ _) | (with_reducible assumption) | (with_reducible refine below_run ?_ (by assumption)) | (with_reducible refine below_of_upd ?_ (by assumption) ?_) | (with_reducible refine below_drewN ?_ _) | (with_reducible refine Below.drew ?_) | (with_reducible refine below_seven ?_ ?_) | (with_reducible refine below_six ?_ ?_) | (with_reducible refine below_one ?_ ?_) | (with_reducible refine Below.alloc ?_ ?_ _) | (with_reducible refine below_after ?_ ?_ (by assumption)) | (show _ ≤ _; first | omega | (simp; done) | (simp; omega))))))
    simp [results, Tryz.results21, go_sem, *]
end Go.Proofs.YtiemdccjphdbmaaGreat
