/-
  The reference's Find.
  The walk of the law DiscoveryFinds.
-/
import Derived.Test.YtiemdccjphdbmaaGreatFe
import Derived.Test.YtiemdccjphdbmaaGreatFt
import Derived.Test.YtiemdccjphdbmaaGreatRp
import Derived.Test.YtiemdccjphdbmaaGreatRr
namespace Go.Proofs.YtiemdccjphdbmaaGreat
open Go.RowKit

set_option maxHeartbeats 4000000 in
set_option maxRecDepth 100000 in
theorem rfind_any (v : Value) (l : List Dev) (src : Int) (w : World) (hv : DevsAt w v l) (hlb : ∀ d ∈ l, d.lb.size ≤ 9223372036854775807) :
    Calls Tryz.prog 21 #[v, .int .u64 src] w (FindPost (findE l src) (findU l src) w) := by
  have hv' := hv.alloc (.cells #[.slice none 0 0, .int .i64 0] 36)
  have hb0 : Below w.heap.size w (w.alloc (.cells #[.slice none 0 0, .int .i64 0] 36)) := (Below.refl _ _).alloc (Nat.le_refl _) _
  have hz0 : RowAt (w.alloc (.cells #[.slice none 0 0, .int .i64 0] 36)) w.heap.size 36 #[.slice none 0 0, .int .i64 0] := RowAt.new _ _ _
  obtain ⟨n, hn⟩ : ∃ n, devsE l = n := ⟨_, rfl⟩
  have C := Lib.hid (devs_is n _ l _ hv' hlb hn)
  have HV := Lib.hid hv'
  have HN := Lib.hid hn
  have HB0 := Lib.hid hb0
  have HZ0 := Lib.hid hz0
  clear hv hv' hlb hn hb0 hz0
  go_enter Tryz.func21, Tryz.ntmps21
  go_wp2_with fail
  refine C.out.mono ?_
  rintro e w1 ⟨rfl, hb1⟩
  have hz1 := HZ0.out.run hb1
  have HV1 := Lib.hid (HV.out.run hb1)
  have hbw := below_run HB0.out hb1
  obtain ⟨x1, x2, x3, x4, x5, x6⟩ := row_facts hz1
  have HB1 := Lib.hid hbw
  have HZ1 := Lib.hid hz1
  clear hb1 hz1 hbw HV C
  by_cases z : n = 0
  · subst z
    obtain ⟨q, hq⟩ : ∃ q, isId src = q := ⟨_, rfl⟩
    have CS := Lib.hid (Is_is q src hq)
    cases q with
    | false =>
      have hB : beginE l src 0 = 2 := by rw [beginE, if_neg (not_not_intro HN.out), if_pos (.inl hq)]
      have HE := Lib.hid (show findE l src = 2 from hB)
      have HU := Lib.hid (show findU l src = zeroS by rw [findU, if_neg (by rw [HE.out]; decide)])
      clear hB hq
      go_wp2_with fail
      refine (CS.out _).mono ?_
      rintro e w2 ⟨rfl, rfl⟩
      go_wp2
      rw [HE.out, HU.out]
      refine bodyPost_ret (v := .tuple #[.slice none 0 0, .agg #[.slice none 0 0, .int .i64 0], .int .i64 2]) ?_ rfl (find_bad (by have := HB1.out; (repeat' (first | (with_reducible exact Below.refl _ _) | (with_reducible assumption) | (with_reducible refine below_run ?_ (by assumption)) | (with_reducible refine below_of_upd ?_ (by assumption) ?_) | (with_reducible refine below_drewN ?_ _) | (with_reducible refine Below.drew ?_) | (with_reducible refine below_seven ?_ ?_) | (with_reducible refine below_six ?_ ?_) | (with_reducible refine below_one ?_ ?_) | (with_reducible refine Below.alloc ?_ ?_ _) | (with_reducible refine below_after ?_ ?_ (by assumption)) | (show _ ≤ _; first | omega | (simp; done) | (simp; omega))))))
      simp [results, Tryz.results21, go_sem, *]
    | true =>
      have hB : beginE l src 0 = 0 := by rw [beginE, if_neg (not_not_intro HN.out), if_neg (by rw [hq]; simp)]
      have hok := start_ok hB
      have HE := Lib.hid (show findE l src = 0 from hB)
      have HU := Lib.hid (show findU l src = searchS src 48 1 281474976710654 (unmS src l) by rw [findU, if_pos HE.out])
      have CU := Lib.hid (runmuted_any v l src w1 HV1.out hok)
      have hok1 : Sok src (unmS src l) := order_ok hok (.inr rfl)
      have CA := Lib.hid (fun ka da fa kn kc dn dc fn fc W hp => searched_any src 48 ka da fa kn kc dn dc fn fc 1 281474976710654 (unmS src l) W all_in.1 all_in.2.1 all_in.2.2.1 all_in.2.2.2 hok1 hp)
      obtain ⟨t1, ht1⟩ : ∃ t, unmS src l = t := ⟨_, rfl⟩
      rw [ht1] at CU CA HU
      obtain ⟨u, hu⟩ : ∃ u, searchS src 48 1 281474976710654 t1 = u := ⟨_, rfl⟩
      rw [hu] at CA HU
      obtain ⟨Q1, hQ1⟩ : ∃ Q, t1.seq = Q := ⟨_, rfl⟩
      obtain ⟨N1, hN1⟩ : ∃ N, IntKind.i64.wrap (t1.msgs : Int) = N := ⟨_, rfl⟩
      rw [hQ1, hN1] at CA
      have HQN1 := Lib.hid (And.intro hQ1 hN1)
      clear hB hq hok hok1 ht1 hu hQ1 hN1
      go_wp2_with fail
      refine (CS.out _).mono ?_
      rintro e w2 ⟨rfl, rfl⟩
      go_wp2_with fail
      refine CU.out.mono ?_
      rintro e w4 ⟨y, rfl, hy, hb4⟩
      obtain ⟨ka, kn, kc, da, dn, dc, fa, fn, fc, rfl, hpar4⟩ := hy
      rw [stA, HQN1.out.1, HQN1.out.2]
      have HZ4 := Lib.hid (HZ1.out.run hb4)
      have HB4 := Lib.hid (below_run HB1.out hb4)
      have HP4 := Lib.hid hpar4
      clear hb4 hpar4 x1 x2 x3 x4 x5 x6 HZ1 HB1 CU CS
      go_wp2_with fail
      refine (CA.out ka da fa kn kc dn dc fn fc _ HP4.out).mono ?_
      rintro e w2 ⟨y, rfl, hy, hb2⟩
      have hz2 := HZ4.out.run hb2
      have hbw2 := below_run HB4.out hb2
      obtain ⟨xa, xn, xc, ya, yn, yc, za, zn, zc, rfl, hpar⟩ := hy
      obtain ⟨Q, hQ⟩ : ∃ Q, u.seq = Q := ⟨_, rfl⟩
      obtain ⟨N, hN⟩ : ∃ N, IntKind.i64.wrap (u.msgs : Int) = N := ⟨_, rfl⟩
      rw [stA, hQ, hN]
      have HQN := Lib.hid (And.intro hQ hN)
      have HPAR := Lib.hid hpar
      have HZ2 := Lib.hid hz2
      have HB2 := Lib.hid hbw2
      have hle2 := hbw2.size
      have hlt2 := lt_of_block hz2
      have hne : ¬ w.heap.size = w2.heap.size := by omega
      clear hb2 hz2 hbw2 hpar hQ hN CA
      go_upto_region 7 with fail
      have F : RowAt ((w2.alloc (.cells #[.slice xa xn xc, .slice ya yn yc, .int .u64 src, .int .i64 Q, .slice za zn zc, .int .i64 N] 86))) (w2.heap.size) 86 #[.slice xa xn xc, .slice ya yn yc, .int .u64 src, .int .i64 Q, .slice za zn zc, .int .i64 N] ∧ Below w.heap.size w ((w2.alloc (.cells #[.slice xa xn xc, .slice ya yn yc, .int .u64 src, .int .i64 Q, .slice za zn zc, .int .i64 N] 86))) ∧ RowAt ((w2.alloc (.cells #[.slice xa xn xc, .slice ya yn yc, .int .u64 src, .int .i64 Q, .slice za zn zc, .int .i64 N] 86))) w.heap.size 36 #[.slice none 0 0, .int .i64 0] ∧ RPar ((w2.alloc (.cells #[.slice xa xn xc, .slice ya yn yc, .int .u64 src, .int .i64 Q, .slice za zn zc, .int .i64 N] 86))) (.slice xa xn xc) (.slice ya yn yc) (.slice za zn zc) u := ⟨RowAt.new _ _ _, HB2.out.alloc hle2 _, HZ2.out.alloc _, HPAR.out.run ((Below.refl _ _).alloc (Nat.le_refl _) _)⟩
      generalize (w2.alloc (.cells #[.slice xa xn xc, .slice ya yn yc, .int .u64 src, .int .i64 Q, .slice za zn zc, .int .i64 N] 86)) = w3 at F ⊢
      obtain ⟨hr3, hbf, hz3, hp3⟩ := F
      have HP3 := Lib.hid hp3
      generalize w2.heap.size = K at hr3 hne hle2 ⊢
      have c1 : w3.cell? ⟨K, 1, none⟩ = some (.slice ya yn yc) := cell_fact hr3 1
      have c4 : w3.cell? ⟨K, 4, none⟩ = some (.slice za zn zc) := cell_fact hr3 4
      have c5 : w3.cell? ⟨K, 5, none⟩ = some (.int .i64 N) := cell_fact hr3 5
      obtain ⟨y1, y2, y3, y4, y5, y6⟩ := row_facts hz3
      have P := Lib.hid (rparts_two (u1 := .slice za zn zc) (u2 := .int .i64 N) hz3 HP3.out)
      have HZ3 := Lib.hid hz3
      have HBF := Lib.hid hbf
      have hlk := lt_of_block hr3
      clear hbf hz3 hp3 HPAR hr3
      go_region_held3 (fun w' => w'.cell? ⟨K, 1, none⟩ = some (.slice ya yn yc) ∧ w'.cell? ⟨K, 4, none⟩ = some (.slice za zn zc) ∧ w'.cell? ⟨K, 5, none⟩ = some (.int .i64 N)) (go_keep) (fail)
      all_goals go_wp2
      all_goals
        rw [HE.out, HU.out]
        obtain ⟨p1, p2⟩ := P.out
        have hr4 : RowAt ((w3.setCell ⟨w.heap.size, 0, none⟩ (.slice za zn zc)).setCell ⟨w.heap.size, 1, none⟩ (.int .i64 N)) w.heap.size 36 #[.slice za zn zc, .int .i64 N] := RowAt.set (RowAt.set HZ3.out rfl) rfl
        refine bodyPost_ret (v := .tuple #[.slice ya yn yc, .agg #[.slice za zn zc, .int .i64 N], .int .i64 0]) ?_ rfl ⟨_, _, by rw [HQN.out.2], p1, p2, Below.drew (below_one (below_one HBF.out (Nat.le_refl _)) (Nat.le_refl _))⟩
        simp [results, Tryz.results21, go_sem, cell_fact hr4]
  · have e9 : (n != 0) = true := by simpa using z
    have hB : beginE l src 0 = n := by rw [beginE, if_pos (by rw [HN.out]; exact z), HN.out]
    have HE := Lib.hid (show findE l src = n from hB)
    have HU := Lib.hid (show findU l src = zeroS by rw [findU, if_neg (by rw [HE.out]; exact z)])
    clear z hB
    go_wp2
    rw [HE.out, HU.out]
    refine bodyPost_ret (v := .tuple #[.slice none 0 0, .agg #[.slice none 0 0, .int .i64 0], .int .i64 n]) ?_ rfl (find_bad (by have := HB1.out; (repeat' (first | (with_reducible exact Below.refl _ _) | (with_reducible assumption) | (with_reducible refine below_run ?_ (by assumption)) | (with_reducible refine below_of_upd ?_ (by assumption) ?_) | (with_reducible refine below_drewN ?_ _) | (with_reducible refine Below.drew ?_) | (with_reducible refine below_seven ?_ ?_) | (with_reducible refine below_six ?_ ?_) | (with_reducible refine below_one ?_ ?_) | (with_reducible refine Below.alloc ?_ ?_ _) | (with_reducible refine below_after ?_ ?_ (by assumption)) | (show _ ≤ _; first | omega | (simp; done) | (simp; omega))))))
    simp [results, Tryz.results21, go_sem, *]
end Go.Proofs.YtiemdccjphdbmaaGreat

namespace Go.Proofs.YtiemdccjphdbmaaGreat
open Go.RowKit

theorem refr_sizes (l : List Dev) (src : Int) (k : List Int) : (refrU l src k).devs.length ≤ l.length := by
  unfold refrU
  split
  · rw [search_length]
    have : ∀ (k : List Int) (s : SSt) (lost : List Int), (refrS src k s lost).1.devs.length = s.devs.length := by
      intro k
      induction k with
      | nil => exact fun _ _ => rfl
      | cons y k ih =>
        intro s lost
        rw [refrS, ih]
        exact sentS_length _ _
    unfold refrP
    rw [this]
    exact Nat.le_of_eq (sentS_length _ _)
  · exact Nat.zero_le _
theorem find_sizes (l : List Dev) (src : Int) : (findU l src).devs.length ≤ l.length := by
  unfold findU
  split
  · rw [search_length]
    exact Nat.le_of_eq (sentS_length _ _)
  · exact Nat.zero_le _

/-- Two new findings are put in the place of the old ones. -/
theorem found2_put1 {w W : World} {g k1 : Nat} {a : Option Addr} {m c : Nat} {v1 vf2 v2 u1 vl : Value} {N N' : Int} {ds ds' : List Dev} {xs xs' ls : List Int} (h : Found2 w W g k1 v1 (.slice a m c) v2 vf2 N ds xs) (hk : w.heap.size ≤ k1) (hd : DevsAt W u1 ds') {vf' : Value} (hi : IdsAt W vf' xs') (hl : IdsAt W vl ls) :
    RowAt ((W.setCell ⟨k1, 0, none⟩ vf').setCell ⟨k1, 1, none⟩ (.int .i64 N')) k1 32 #[vf', .int .i64 N'] ∧ RowAt ((W.setCell ⟨k1, 0, none⟩ vf').setCell ⟨k1, 1, none⟩ (.int .i64 N')) g 36 #[vf2, .int .i64 N] ∧
    DevsAt ((W.setCell ⟨k1, 0, none⟩ vf').setCell ⟨k1, 1, none⟩ (.int .i64 N')) u1 ds' ∧ IdsAt ((W.setCell ⟨k1, 0, none⟩ vf').setCell ⟨k1, 1, none⟩ (.int .i64 N')) vf' xs' ∧ IdsAt ((W.setCell ⟨k1, 0, none⟩ vf').setCell ⟨k1, 1, none⟩ (.int .i64 N')) vl ls ∧
    Below w.heap.size w ((W.setCell ⟨k1, 0, none⟩ vf').setCell ⟨k1, 1, none⟩ (.int .i64 N')) := by
  have hne : g ≠ k1 := by
    rintro rfl
    have r1 := h.r1
    have r2 := h.r2
    unfold RowAt at r1 r2
    rw [r1] at r2
    simp at r2
  exact ⟨h.r1.two, (h.r2.far1 hne).far1 hne, devs_two h.r1 (by simp) hd, ids_two h.r1 hi, ids_two h.r1 hl, below_one (below_one h.below hk) hk⟩

set_option maxHeartbeats 8000000 in
set_option maxRecDepth 100000 in
theorem law_finds (v vk : Value) (l : List Dev) (k : List Int) (src : Int) (w : World) (hv : DevsAt w v l) (hk : IdsAt w vk k) (hr : l.length * 56 ≤ 140737488351232) (hcap : CapOk vk) :
    Calls Tryz.prog 5 #[v, .int .u64 src, vk] w fun e w' => e = .returned (.bool true) ∧ Below w.heap.size w w' := by
  obtain ⟨q1, h1⟩ : ∃ q, fewD l = q := ⟨_, rfl⟩
  have hln : ∀ a m c, vk = .slice a m c → m = k.length := by
    rintro a m c rfl
    rcases hk with ⟨h0, _, _, e⟩ | ⟨_, _, _, _, _, e, _⟩ <;> cases e <;> omega
  obtain ⟨sa, sk, sc, rfl⟩ := slice_of hk
  obtain rfl := hln _ _ _ rfl
  have H1 := Lib.hid h1
  have HV := Lib.hid hv
  have HK := Lib.hid hk
  have HCAP := Lib.hid hcap
  have hdv := fun v l W (h : DevsAt W v l) hr => devices_any v l W h hr
  have CD := Lib.hid hdv
  clear hv hk h1 hdv hln hcap
  go_enter Tryz.func5, Tryz.ntmps5
  go_wp2_with fail
  refine (CD.out _ l _ HV.out hr).mono ?_
  rintro e w1 ⟨v1, rfl, hd1, hb1⟩
  have HD1 := Lib.hid hd1
  have HB1 := Lib.hid hb1
  clear hd1 hb1
  go_wp2_with fail
  refine (few48_is q1 _ l _ HD1.out H1).mono ?_
  rintro e w2 ⟨rfl, hb2⟩
  have HB2 := Lib.hid (below_run HB1.out hb2)
  clear hb2 HB1 HD1
  cases q1 with
  | false =>
    go_wp2_with fail
    refine (awake48_any _).mono ?_
    rintro e w3 ⟨rfl, hb3⟩
    go_wp2
    go_ret
    exact ⟨rfl, below_run HB2.out hb3⟩
  | true =>
  by_cases hs : (8 < k.length ∧ k.length ≤ 64) ∨ 128 < k.length
  · have h8 : (8 : Int) < (k.length : Int) := by omega
    by_cases h64 : (k.length : Int) ≤ 64
    · clear hs
      go_wp2_with fail
      refine (awake48_any _).mono ?_
      rintro e w4 ⟨rfl, hb4⟩
      go_wp2
      go_ret
      exact ⟨rfl, below_run HB2.out hb4⟩
    · have h128 : (128 : Int) < (k.length : Int) := by omega
      clear hs
      go_wp2_with fail
      refine (awake48_any _).mono ?_
      rintro e w4 ⟨rfl, hb4⟩
      go_wp2
      go_ret
      exact ⟨rfl, below_run HB2.out hb4⟩
  · have h128 : ¬ (128 : Int) < (k.length : Int) := by omega
    have hways : (¬ (8 : Int) < (k.length : Int)) ∨ ((8 : Int) < (k.length : Int) ∧ ¬ (k.length : Int) ≤ 64) := by omega
    have HW := Lib.hid hways
    clear hs hways
    rcases HW.out with g | ⟨g1, g2⟩
    all_goals
      have HSM := Lib.hid (fewD_small H1.out)
      have CF := Lib.hid (fun W (h : DevsAt W v l) => dfind_any v l src W h)
      have CR := Lib.hid (fun V W (h : DevsAt W V l) => rfind_any V l src W h HSM.out.2)
      have CP := Lib.hid (fun W (h : DevsAt W v l) (hk : IdsAt W (.slice sa k.length sc) k) => refresh_any v _ l k src W h hk HCAP.out)
      have CQ := Lib.hid (fun V W (h : DevsAt W V l) (hk : IdsAt W (.slice sa k.length sc) k) => rrefresh_any V _ l k src W h hk HSM.out.2 HCAP.out)
      have HUL := Lib.hid (And.intro (find_sizes l src) (refr_sizes l src k))
      obtain ⟨n, hn⟩ : ∃ n, findE l src = n := ⟨_, rfl⟩
      obtain ⟨u, hu⟩ : ∃ u, findU l src = u := ⟨_, rfl⟩
      obtain ⟨n', hn'⟩ : ∃ n, refrE l src k = n := ⟨_, rfl⟩
      obtain ⟨u', hu'⟩ : ∃ u, refrU l src k = u := ⟨_, rfl⟩
      obtain ⟨ls, hls⟩ : ∃ u, refrL l src k = u := ⟨_, rfl⟩
      rw [hn, hu] at CF CR
      rw [hn', hu', hls] at CP CQ
      rw [hu, hu'] at HUL
      obtain ⟨N, hN⟩ : ∃ N, IntKind.i64.wrap (u.msgs : Int) = N := ⟨_, rfl⟩
      obtain ⟨N', hN'⟩ : ∃ N, IntKind.i64.wrap (u'.msgs : Int) = N := ⟨_, rfl⟩
      unfold FindPost at CF CR
      unfold RefrPost at CP CQ
      rw [hN] at CF CR
      rw [hN'] at CP CQ
      clear hn hu hN hn' hu' hls hN'
      go_wp2_with fail
      refine (CF.out _ (HV.out.run HB2.out)).mono ?_
      rintro e w3 ⟨v3, vf3, rfl, hd3, hi3, hb3⟩
      have hbw := below_run HB2.out hb3
      obtain ⟨fa, fn, fc, rfl⟩ := slice_of hi3
      go_upto_region 4 with fail
      have hbb : Below w3.heap.size w3 (w3.alloc (.cells #[.slice fa fn fc, .int .i64 N] 32)) := (Below.refl _ _).alloc (Nat.le_refl _) _
      have rF : RowAt (w3.alloc (.cells #[.slice fa fn fc, .int .i64 N] 32)) w3.heap.size 32 #[.slice fa fn fc, .int .i64 N] := RowAt.new _ _ _
      have kD := hd3.run hbb
      have kI := hi3.run hbb
      have kB := below_run hbw hbb
      have hk1 := hbw.size
      generalize (w3.alloc (.cells #[.slice fa fn fc, .int .i64 N] 32)) = x at rF kD kI kB ⊢
      generalize w3.heap.size = k1 at rF hk1 ⊢
      have RF := Lib.hid rF
      have KD := Lib.hid kD
      have KI := Lib.hid kI
      have KB := Lib.hid kB
      clear hbb rF kD kI kB hd3 hi3 hb3 hbw HB2
      go_wp2_with fail
      refine (CD.out _ l _ (HV.out.run KB.out) hr).mono ?_
      rintro e w4 ⟨v4, rfl, hd4, hb4⟩
      have RF4 := Lib.hid (RF.out.run hb4)
      have KD4 := Lib.hid (KD.out.run hb4)
      have KI4 := Lib.hid (KI.out.run hb4)
      have KB4 := Lib.hid (below_run KB.out hb4)
      have HD4 := Lib.hid hd4
      clear hd4 hb4 RF KD KI KB
      go_wp2_with fail
      refine (CR.out _ _ HD4.out).mono ?_
      rintro e w5 ⟨v5, vf5, rfl, hd5, hi5, hb5⟩
      obtain ⟨ga, gn, gc, rfl⟩ := slice_of hi5
      go_upto_region 5 with fail
      have F : Found2 w (w5.alloc (.cells #[.slice ga gn gc, .int .i64 N] 36)) w5.heap.size k1 v3 (.slice fa fn fc) v5 (.slice ga gn gc) N u.devs u.found := found2_new (RF4.out.run hb5) hd5 hi5 (KD4.out.run hb5) (KI4.out.run hb5) (below_run KB4.out hb5)
      have hg5 : w.heap.size ≤ w5.heap.size := (below_run KB4.out hb5).size
      generalize (w5.alloc (.cells #[.slice ga gn gc, .int .i64 N] 36)) = x5 at F ⊢
      generalize w5.heap.size = g5 at F hg5 ⊢
      have HF := Lib.hid F
      clear F hd5 hi5 hb5 RF4 KD4 KI4 KB4 HD4 CR CF
      go_wp2_with fail
      refine (awake48_any _).mono ?_
      rintro e w6 ⟨rfl, hb6⟩
      have F6 := Lib.hid (HF.out.run hb6)
      clear hb6
      go_wp2_with fail
      refine (CD.out _ u.devs _ F6.out.d1 (by have := HUL.out; omega)).mono ?_
      rintro e w7 ⟨v7, rfl, hd7, hb7⟩
      have F7 := Lib.hid (F6.out.run hb7)
      have HD7 := Lib.hid hd7
      clear hb7 hd7
      go_wp2_with fail
      refine (same_any _ _ u.devs _ HD7.out F7.out.d2).mono ?_
      rintro e w8 ⟨rfl, hb8⟩
      have F8 := F7.out.run hb8
      obtain ⟨p1, p2, p3, p4, p5, p6⟩ := row_facts F8.r1
      obtain ⟨q1, q2, q3, q4, q5, q6⟩ := row_facts F8.r2
      have HF8 := Lib.hid F8
      have z3 : (n != n) = false := by simp
      clear F8 hb8
      go_wp2_with fail
      refine (samefind_any _ _ N u.found _ HF8.out.i1 HF8.out.i2).mono ?_
      rintro e w9 ⟨rfl, hb9⟩
      have F9 := Lib.hid (HF8.out.run hb9)
      clear hb9 p1 p2 p3 p4 p5 p6 q1 q2 q3 q4 q5 q6
      go_wp2_with fail
      refine (CP.out _ (HV.out.run F9.out.below) (HK.out.run F9.out.below)).mono ?_
      rintro e w10 ⟨v10, vf10, vl10, rfl, hd10, hi10, hl10, hb10⟩
      have F10 := F9.out.run hb10
      obtain ⟨fa', fn', fc', rfl⟩ := slice_of hi10
      obtain ⟨p1, p2, p3, p4, p5, p6⟩ := row_facts F10.r1
      have P1 := found2_put1 (N' := N') F10 hk1 hd10 hi10 hl10
      have HP1 := Lib.hid P1
      clear P1 F10 hd10 hi10 hl10 hb10
      go_upto_region 8 with fail
      generalize ((w10.setCell ⟨k1, 0, none⟩ (.slice fa' fn' fc')).setCell ⟨k1, 1, none⟩ (.int .i64 N')) = x10 at HP1 ⊢
      clear p1 p2 p3 p4 p5 p6
      go_wp2_with fail
      refine (CD.out _ l _ (HV.out.run HP1.out.2.2.2.2.2) hr).mono ?_
      rintro e w11 ⟨v11, rfl, hd11, hb11⟩
      have HB11 := Lib.hid hb11
      have HD11 := Lib.hid hd11
      have HB1 := Lib.hid (below_run HP1.out.2.2.2.2.2 hb11)
      clear hb11 hd11
      go_wp2_with fail
      refine (CQ.out _ _ HD11.out (HK.out.run HB1.out)).mono ?_
      rintro e w12 ⟨v12, vf12, vl12, rfl, hd12, hi12, hl12, hb12⟩
      obtain ⟨ga', gn', gc', rfl⟩ := slice_of hi12
      obtain ⟨la, ln, lc, rfl⟩ := slice_of hl12
      have hb2 := below_run HB11.out hb12
      have r1 := HP1.out.1.run hb2
      have r2 := HP1.out.2.1.run hb2
      have d1 := HP1.out.2.2.1.run hb2
      have i1 := HP1.out.2.2.2.1.run hb2
      have l1 := HP1.out.2.2.2.2.1.run hb2
      have bw := below_run HB1.out hb12
      obtain ⟨q1, q2, q3, q4, q5, q6⟩ := row_facts r2
      have R : Found2 w ((w12.setCell ⟨g5, 0, none⟩ (.slice ga' gn' gc')).setCell ⟨g5, 1, none⟩ (.int .i64 N')) g5 k1 v10 (.slice fa' fn' fc') v12 (.slice ga' gn' gc') N' u'.devs u'.found ∧
          IdsAt ((w12.setCell ⟨g5, 0, none⟩ (.slice ga' gn' gc')).setCell ⟨g5, 1, none⟩ (.int .i64 N')) vl10 ls ∧ IdsAt ((w12.setCell ⟨g5, 0, none⟩ (.slice ga' gn' gc')).setCell ⟨g5, 1, none⟩ (.int .i64 N')) (.slice la ln lc) ls :=
        ⟨found2 r2 r1 hd12 hi12 d1 i1 bw hg5, ids_two r2 l1, ids_two r2 hl12⟩
      have HR := Lib.hid R
      clear R r1 r2 d1 i1 l1 bw hd12 hi12 hl12 hb12 hb2 HP1 HB1 HB11
      go_upto_region 9 with fail
      generalize ((w12.setCell ⟨g5, 0, none⟩ (.slice ga' gn' gc')).setCell ⟨g5, 1, none⟩ (.int .i64 N')) = x12 at HR ⊢
      clear q1 q2 q3 q4 q5 q6
      go_wp2_with fail
      refine (CD.out _ u'.devs _ HR.out.1.d1 (by have := HUL.out; omega)).mono ?_
      rintro e w13 ⟨v13, rfl, hd13, hb13⟩
      have F13 := Lib.hid (HR.out.1.run hb13)
      have L13 := Lib.hid (And.intro (HR.out.2.1.run hb13) (HR.out.2.2.run hb13))
      have HD13 := Lib.hid hd13
      clear hb13 hd13
      go_wp2_with fail
      refine (same_any _ _ u'.devs _ HD13.out F13.out.d2).mono ?_
      rintro e w14 ⟨rfl, hb14⟩
      have F14 := F13.out.run hb14
      have L14 := Lib.hid (And.intro (L13.out.1.run hb14) (L13.out.2.run hb14))
      obtain ⟨p1, p2, p3, p4, p5, p6⟩ := row_facts F14.r1
      obtain ⟨q1, q2, q3, q4, q5, q6⟩ := row_facts F14.r2
      have HF14 := Lib.hid F14
      have z4 : (n' == n') = true := by simp
      clear F14 hb14
      go_wp2_with fail
      refine (samefind_any _ _ N' u'.found _ HF14.out.i1 HF14.out.i2).mono ?_
      rintro e w15 ⟨rfl, hb15⟩
      have L15 := Lib.hid (And.intro (L14.out.1.run hb15) (L14.out.2.run hb15))
      have HB15 := Lib.hid (below_run HF14.out.below hb15)
      clear hb15 p1 p2 p3 p4 p5 p6 q1 q2 q3 q4 q5 q6
      go_wp2_with fail
      refine (sameids_any _ _ ls _ L15.out.1 L15.out.2).mono ?_
      rintro e w16 ⟨rfl, hb16⟩
      go_wp2
      go_ret
      exact ⟨rfl, below_run HB15.out hb16⟩
end Go.Proofs.YtiemdccjphdbmaaGreat
