/-
  The reference's Search.
-/
import Derived.Test.YtiemdccjphdbmaaGreatRe
import Derived.Test.YtiemdccjphdbmaaGreatSf
namespace Go.Proofs.YtiemdccjphdbmaaGreat
open Go.RowKit

theorem Is_is (q : Bool) (n : Int) (h : isId n = q) (w : World) : Calls Tryz.prog 26 #[.int .u64 n] w fun e w' => e = .returned (.bool q) ∧ w = w' := by
  have := Is_any n w
  rw [h] at this
  exact this

theorem sentS_length (s : SSt) (m : Msg) : (sendS s m).devs.length = s.devs.length := sentD_length _ _
theorem again_length (src low high : Int) (s : SSt) : (againS src low high s).1.devs.length = s.devs.length := by
  unfold againS orderS
  simp only
  repeat' split
  all_goals simp [sentS_length]
theorem round_length (src low high : Int) : ∀ (f : Nat) (s : SSt), (roundS src low high f s).1.devs.length = s.devs.length
  | 0, _ => rfl
  | f + 1, s => by
    rw [roundS]
    split
    · rw [round_length, again_length]
    · exact again_length _ _ _ _
theorem search_length (src : Int) : ∀ (d : Nat) (low high : Int) (s : SSt), (searchS src d low high s).devs.length = s.devs.length
  | 0, _, _, _ => by rw [searchS, round_length]
  | d + 1, _, _, _ => by
    rw [searchS]
    split
    · rw [round_length]
    · rw [search_length, search_length, round_length]
theorem searchU_length (l : List Dev) (src seq low high : Int) : (searchU l src seq low high).devs.length ≤ l.length := by
  unfold searchU
  split
  · rw [search_length]
    exact Nat.le_refl _
  · exact Nat.zero_le _

/-- Two stores into a small block of the call's own leave a state's parts elsewhere. -/
theorem rparts_two {w : World} {z : Nat} {cs : Array Value} {u1 u2 kv dv fv : Value} {t : SSt} (hr : RowAt w z 36 cs) (h : RPar w kv dv fv t) (hs : cs.size < 7 := by decide) :
    DevsAt ((w.setCell ⟨z, 0, none⟩ u1).setCell ⟨z, 1, none⟩ u2) dv t.devs ∧ IdsAt ((w.setCell ⟨z, 0, none⟩ u1).setCell ⟨z, 1, none⟩ u2) fv t.found := by
  have far : ∀ (k : Nat), k ≠ z → ((w.setCell ⟨z, 0, none⟩ u1).setCell ⟨z, 1, none⟩ u2).heap[k]? = w.heap[k]? := fun k hne => (heap_setCell_other _ ⟨z, 1, none⟩ k _ hne).trans (heap_setCell_other _ ⟨z, 0, none⟩ k _ hne)
  refine ⟨?_, ?_⟩
  · refine SeqAt.same h.devs (by simp) fun b off cap e h0 hc => far b ?_
    rintro rfl
    have h7 := devsC_at t.devs 0 h0 6 (by decide)
    have hg := hc 6 (by omega)
    rw [show 0 * 7 + 6 = 6 from rfl] at h7
    rw [h7, (row_facts hr).1, Array.getElem?_eq_none (by omega)] at hg
    cases hg
  · refine SeqAt.same h.found (by simp) fun b off cap e h0 hc => far b ?_
    rintro rfl
    obtain ⟨cur, x, hg⟩ := h.fty _ _ _ e
    unfold RowAt at hr
    rw [hr] at hg
    simp at hg

set_option maxHeartbeats 4000000 in
set_option maxRecDepth 100000 in
theorem rsearch_any (v : Value) (l : List Dev) (src seq low high : Int) (w : World) (hv : DevsAt w v l) (hlb : ∀ d ∈ l, d.lb.size ≤ 9223372036854775807) :
    Calls Tryz.prog 12 #[v, .int .u64 src, .int .i64 seq, .int .u64 low, .int .u64 high] w (FindPost (searchE l src seq low high) (searchU l src seq low high) w) := by
  have hv' := hv.alloc (.cells #[.slice none 0 0, .int .i64 0] 36)
  obtain ⟨sa, sn, sc, rfl⟩ := slice_of hv
  have hb0 : Below w.heap.size w (w.alloc (.cells #[.slice none 0 0, .int .i64 0] 36)) := (Below.refl _ _).alloc (Nat.le_refl _) _
  have hz0 : RowAt (w.alloc (.cells #[.slice none 0 0, .int .i64 0] 36)) w.heap.size 36 #[.slice none 0 0, .int .i64 0] := RowAt.new _ _ _
  obtain ⟨n, hn⟩ : ∃ n, devsE l = n := ⟨_, rfl⟩
  have C := Lib.hid (devs_is n _ l _ hv' hlb hn)
  have HV := Lib.hid hv'
  have HN := Lib.hid hn
  have HB0 := Lib.hid hb0
  have HZ0 := Lib.hid hz0
  clear hv hv' hlb hn hb0 hz0
  go_enter Tryz.func12, Tryz.ntmps12
  go_wp2_with fail
  refine C.out.mono ?_
  rintro e w1 ⟨rfl, hb1⟩
  have hz1 := HZ0.out.run hb1
  have HV1 := Lib.hid (HV.out.run hb1)
  have hbw := below_run HB0.out hb1
  obtain ⟨x1, x2, x3, x4, x5, x6⟩ := row_facts hz1
  have HB1 := Lib.hid hbw
  have HZ1 := Lib.hid hz1
  clear hb1 hz1 hbw HV C
  by_cases z : n = 0
  · subst z
    by_cases g : isId src = true ∧ 0 ≤ seq ∧ seq ≤ 255
    · have hB : beginE l src seq = 0 := by rw [beginE, if_neg (not_not_intro HN.out), if_neg (by rw [g.1]; simp; omega)]
      obtain ⟨g1, g2, g3⟩ := g
      have CS := Lib.hid (Is_is true src g1)
      by_cases g4 : isId low = true
      · have CL := Lib.hid (Is_is true low g4)
        by_cases g5 : isId high = true
        · have CH := Lib.hid (Is_is true high g5)
          by_cases hlh : high < low
          · have HE := Lib.hid (show searchE l src seq low high = 9 by rw [searchE, if_neg (not_not_intro hB), if_neg (by rw [g4, g5]; simp), if_pos hlh])
            have HU := Lib.hid (show searchU l src seq low high = zeroS by rw [searchU, if_neg (by rw [HE.out]; decide)])
            clear hB g1 g4 g5
            go_wp2_with fail
            refine (CS.out _).mono ?_
            rintro e w2 ⟨rfl, rfl⟩
            go_wp2_with fail
            refine (CL.out _).mono ?_
            rintro e w2 ⟨rfl, rfl⟩
            go_wp2_with fail
            refine (CH.out _).mono ?_
            rintro e w2 ⟨rfl, rfl⟩
            go_wp2
            rw [HE.out, HU.out]
            refine bodyPost_ret (v := .tuple #[.slice none 0 0, .agg #[.slice none 0 0, .int .i64 0], .int .i64 9]) ?_ rfl (find_bad (by have := HB1.out; (repeat' (first | (with_reducible exact Below.refl _ _) | (with_reducible assumption) | (with_reducible refine below_run ?_ (by assumption)) | (with_reducible refine below_of_upd ?_ (by assumption) ?_) | (with_reducible refine below_drewN ?_ _) | (with_reducible refine Below.drew ?_) | (with_reducible refine below_seven ?_ ?_) | (with_reducible refine below_six ?_ ?_) | (with_reducible refine below_one ?_ ?_) | (with_reducible refine Below.alloc ?_ ?_ _) | (with_reducible refine below_after ?_ ?_ (by assumption)) | (show _ ≤ _; first | omega | (simp; done) | (simp; omega))))))
            simp [results, Tryz.results12, go_sem, *]
          · have HE := Lib.hid (show searchE l src seq low high = 0 by rw [searchE, if_neg (not_not_intro hB), if_neg (by rw [g4, g5]; simp), if_neg hlh])
            have HU := Lib.hid (show searchU l src seq low high = searchS src 48 low high (startS l seq) by rw [searchU, if_pos HE.out])
            have a1 := isId_nat g4
            have a2 := isId_nat g5
            have hp : (2 : Int) ^ 48 = 281474976710656 := by decide
            have hok := start_ok hB
            have hpar : RPar w1 (.slice none 0 0) (.slice sa sn sc) (.slice none 0 0) (startS l seq) :=
              ⟨.inl ⟨rfl, _, _, rfl⟩, typed_nil _ _ _ _, HV1.out, .inl ⟨rfl, _, _, rfl⟩, typed_nil _ _ _ _, fun _ _ e => by cases e; rfl, fun _ _ e => by cases e; rfl⟩
            have CA := searched_any src 48 none sa none 0 0 sn sc 0 0 low high (startS l seq) w1 g4 g5 (by omega) (by omega) hok hpar
            have e1 : IntKind.i64.wrap ((startS l seq).msgs : Int) = 0 := by show IntKind.i64.wrap ((0 : Nat) : Int) = 0; decide
            rw [e1] at CA
            have CAH := Lib.hid CA
            obtain ⟨u, hu⟩ : ∃ u, searchS src 48 low high (startS l seq) = u := ⟨_, rfl⟩
            rw [hu] at HU CAH
            clear hB g1 g4 g5 a1 a2 hp hok hpar CA e1 hu
            go_wp2_with fail
            refine (CS.out _).mono ?_
            rintro e w2 ⟨rfl, rfl⟩
            go_wp2_with fail
            refine (CL.out _).mono ?_
            rintro e w2 ⟨rfl, rfl⟩
            go_wp2_with fail
            refine (CH.out _).mono ?_
            rintro e w2 ⟨rfl, rfl⟩
            go_wp2_with fail
            refine CAH.out.mono ?_
            rintro e w2 ⟨y, rfl, hy, hb2⟩
            have hz2 := HZ1.out.run hb2
            have hbw2 := below_run HB1.out hb2
            obtain ⟨xa, xn, xc, ya, yn, yc, za, zn, zc, rfl, hpar⟩ := hy
            obtain ⟨Q, hQ⟩ : ∃ Q, u.seq = Q := ⟨_, rfl⟩
            obtain ⟨N, hN⟩ : ∃ N, IntKind.i64.wrap (u.msgs : Int) = N := ⟨_, rfl⟩
            rw [stA, hQ, hN]
            have HQN := Lib.hid (And.intro hQ hN)
            have HPAR := Lib.hid hpar
            have HZ2 := Lib.hid hz2
            have HB2 := Lib.hid hbw2
            have hle2 := hbw2.size
            have hlt2 := lt_of_block hz2
            have hne : ¬ w.heap.size = w2.heap.size := by omega
            clear hb2 hz2 hbw2 hpar hQ hN x1 x2 x3 x4 x5 x6 CAH CS CL CH HZ1 HB1
            go_upto_region 9 with fail
            have F : RowAt ((w2.alloc (.cells #[.slice xa xn xc, .slice ya yn yc, .int .u64 src, .int .i64 Q, .slice za zn zc, .int .i64 N] 86))) (w2.heap.size) 86 #[.slice xa xn xc, .slice ya yn yc, .int .u64 src, .int .i64 Q, .slice za zn zc, .int .i64 N] ∧ Below w.heap.size w ((w2.alloc (.cells #[.slice xa xn xc, .slice ya yn yc, .int .u64 src, .int .i64 Q, .slice za zn zc, .int .i64 N] 86))) ∧ RowAt ((w2.alloc (.cells #[.slice xa xn xc, .slice ya yn yc, .int .u64 src, .int .i64 Q, .slice za zn zc, .int .i64 N] 86))) w.heap.size 36 #[.slice none 0 0, .int .i64 0] ∧ RPar ((w2.alloc (.cells #[.slice xa xn xc, .slice ya yn yc, .int .u64 src, .int .i64 Q, .slice za zn zc, .int .i64 N] 86))) (.slice xa xn xc) (.slice ya yn yc) (.slice za zn zc) u := ⟨RowAt.new _ _ _, HB2.out.alloc hle2 _, HZ2.out.alloc _, HPAR.out.run ((Below.refl _ _).alloc (Nat.le_refl _) _)⟩
            generalize (w2.alloc (.cells #[.slice xa xn xc, .slice ya yn yc, .int .u64 src, .int .i64 Q, .slice za zn zc, .int .i64 N] 86)) = w3 at F ⊢
            obtain ⟨hr3, hbf, hz3, hp3⟩ := F
            have HP3 := Lib.hid hp3
            generalize w2.heap.size = K at hr3 hne hle2 ⊢
            have c1 : w3.cell? ⟨K, 1, none⟩ = some (.slice ya yn yc) := cell_fact hr3 1
            have c4 : w3.cell? ⟨K, 4, none⟩ = some (.slice za zn zc) := cell_fact hr3 4
            have c5 : w3.cell? ⟨K, 5, none⟩ = some (.int .i64 N) := cell_fact hr3 5
            obtain ⟨y1, y2, y3, y4, y5, y6⟩ := row_facts hz3
            have P := Lib.hid (rparts_two (u1 := .slice za zn zc) (u2 := .int .i64 N) hz3 HP3.out)
            have HZ3 := Lib.hid hz3
            have HBF := Lib.hid hbf
            have hlk := lt_of_block hr3
            clear hbf hz3 hp3 HPAR hr3
            go_region_held3 (fun w' => w'.cell? ⟨K, 1, none⟩ = some (.slice ya yn yc) ∧ w'.cell? ⟨K, 4, none⟩ = some (.slice za zn zc) ∧ w'.cell? ⟨K, 5, none⟩ = some (.int .i64 N)) (go_keep) (fail)
            all_goals go_wp2
            all_goals
              rw [HE.out, HU.out]
              obtain ⟨p1, p2⟩ := P.out
              have hr4 : RowAt ((w3.setCell ⟨w.heap.size, 0, none⟩ (.slice za zn zc)).setCell ⟨w.heap.size, 1, none⟩ (.int .i64 N)) w.heap.size 36 #[.slice za zn zc, .int .i64 N] := RowAt.set (RowAt.set HZ3.out rfl) rfl
              refine bodyPost_ret (v := .tuple #[.slice ya yn yc, .agg #[.slice za zn zc, .int .i64 N], .int .i64 0]) ?_ rfl ⟨_, _, by rw [HQN.out.2], p1, p2, Below.drew (below_one (below_one HBF.out (Nat.le_refl _)) (Nat.le_refl _))⟩
              simp [results, Tryz.results12, go_sem, cell_fact hr4]
        · have h5 : isId high = false := by simpa using g5
          have CH := Lib.hid (Is_is false high h5)
          have HE := Lib.hid (show searchE l src seq low high = 2 by rw [searchE, if_neg (not_not_intro hB), if_pos (.inr h5)])
          have HU := Lib.hid (show searchU l src seq low high = zeroS by rw [searchU, if_neg (by rw [HE.out]; decide)])
          clear hB g1 g4 g5 h5
          go_wp2_with fail
          refine (CS.out _).mono ?_
          rintro e w2 ⟨rfl, rfl⟩
          go_wp2_with fail
          refine (CL.out _).mono ?_
          rintro e w2 ⟨rfl, rfl⟩
          go_wp2_with fail
          refine (CH.out _).mono ?_
          rintro e w2 ⟨rfl, rfl⟩
          go_wp2
          rw [HE.out, HU.out]
          refine bodyPost_ret (v := .tuple #[.slice none 0 0, .agg #[.slice none 0 0, .int .i64 0], .int .i64 2]) ?_ rfl (find_bad (by have := HB1.out; (repeat' (first | (with_reducible exact Below.refl _ _) | (with_reducible assumption) | (with_reducible refine below_run ?_ (by assumption)) | (with_reducible refine below_of_upd ?_ (by assumption) ?_) | (with_reducible refine below_drewN ?_ _) | (with_reducible refine Below.drew ?_) | (with_reducible refine below_seven ?_ ?_) | (with_reducible refine below_six ?_ ?_) | (with_reducible refine below_one ?_ ?_) | (with_reducible refine Below.alloc ?_ ?_ _) | (with_reducible refine below_after ?_ ?_ (by assumption)) | (show _ ≤ _; first | omega | (simp; done) | (simp; omega))))))
          simp [results, Tryz.results12, go_sem, *]
      · have h4 : isId low = false := by simpa using g4
        have CL := Lib.hid (Is_is false low h4)
        have HE := Lib.hid (show searchE l src seq low high = 2 by rw [searchE, if_neg (not_not_intro hB), if_pos (.inl h4)])
        have HU := Lib.hid (show searchU l src seq low high = zeroS by rw [searchU, if_neg (by rw [HE.out]; decide)])
        clear hB g1 g4 h4
        go_wp2_with fail
        refine (CS.out _).mono ?_
        rintro e w2 ⟨rfl, rfl⟩
        go_wp2_with fail
        refine (CL.out _).mono ?_
        rintro e w2 ⟨rfl, rfl⟩
        go_wp2
        rw [HE.out, HU.out]
        refine bodyPost_ret (v := .tuple #[.slice none 0 0, .agg #[.slice none 0 0, .int .i64 0], .int .i64 2]) ?_ rfl (find_bad (by have := HB1.out; (repeat' (first | (with_reducible exact Below.refl _ _) | (with_reducible assumption) | (with_reducible refine below_run ?_ (by assumption)) | (with_reducible refine below_of_upd ?_ (by assumption) ?_) | (with_reducible refine below_drewN ?_ _) | (with_reducible refine Below.drew ?_) | (with_reducible refine below_seven ?_ ?_) | (with_reducible refine below_six ?_ ?_) | (with_reducible refine below_one ?_ ?_) | (with_reducible refine Below.alloc ?_ ?_ _) | (with_reducible refine below_after ?_ ?_ (by assumption)) | (show _ ≤ _; first | omega | (simp; done) | (simp; omega))))))
        simp [results, Tryz.results12, go_sem, *]
    · obtain ⟨q, hq⟩ : ∃ q, isId src = q := ⟨_, rfl⟩
      have CS := Lib.hid (Is_is q src hq)
      have hB : beginE l src seq = 2 := by rw [beginE, if_neg (not_not_intro HN.out), if_pos (by cases q <;> simp_all; omega)]
      have HE := Lib.hid (show searchE l src seq low high = 2 by rw [searchE, if_pos (by rw [hB]; decide), hB])
      have HU := Lib.hid (show searchU l src seq low high = zeroS by rw [searchU, if_neg (by rw [HE.out]; decide)])
      clear hB
      rw [hq] at g
      clear hq
      go_wp2_with fail
      refine (CS.out _).mono ?_
      rintro e w2 ⟨rfl, rfl⟩
      cases q with
      | false =>
        clear g
        go_wp2
        rw [HE.out, HU.out]
        refine bodyPost_ret (v := .tuple #[.slice none 0 0, .agg #[.slice none 0 0, .int .i64 0], .int .i64 2]) ?_ rfl (find_bad (by have := HB1.out; (repeat' (first | (with_reducible exact Below.refl _ _) | (with_reducible assumption) | (with_reducible refine below_run ?_ (by assumption)) | (with_reducible refine below_of_upd ?_ (by assumption) ?_) | (with_reducible refine below_drewN ?_ _) | (with_reducible refine Below.drew ?_) | (with_reducible refine below_seven ?_ ?_) | (with_reducible refine below_six ?_ ?_) | (with_reducible refine below_one ?_ ?_) | (with_reducible refine Below.alloc ?_ ?_ _) | (with_reducible refine below_after ?_ ?_ (by assumption)) | (show _ ≤ _; first | omega | (simp; done) | (simp; omega))))))
        simp [results, Tryz.results12, go_sem, *]
      | true =>
        by_cases g1 : seq < 0
        · clear g
          go_wp2
          rw [HE.out, HU.out]
          refine bodyPost_ret (v := .tuple #[.slice none 0 0, .agg #[.slice none 0 0, .int .i64 0], .int .i64 2]) ?_ rfl (find_bad (by have := HB1.out; (repeat' (first | (with_reducible exact Below.refl _ _) | (with_reducible assumption) | (with_reducible refine below_run ?_ (by assumption)) | (with_reducible refine below_of_upd ?_ (by assumption) ?_) | (with_reducible refine below_drewN ?_ _) | (with_reducible refine Below.drew ?_) | (with_reducible refine below_seven ?_ ?_) | (with_reducible refine below_six ?_ ?_) | (with_reducible refine below_one ?_ ?_) | (with_reducible refine Below.alloc ?_ ?_ _) | (with_reducible refine below_after ?_ ?_ (by assumption)) | (show _ ≤ _; first | omega | (simp; done) | (simp; omega))))))
          simp [results, Tryz.results12, go_sem, *]
        · have g2 : 255 < seq := by
            have : ¬ (0 ≤ seq ∧ seq ≤ 255) := fun e => g ⟨rfl, e⟩
            omega
          clear g
          go_wp2
          rw [HE.out, HU.out]
          refine bodyPost_ret (v := .tuple #[.slice none 0 0, .agg #[.slice none 0 0, .int .i64 0], .int .i64 2]) ?_ rfl (find_bad (by have := HB1.out; (repeat' (first | (with_reducible exact Below.refl _ _) | (with_reducible assumption) | (with_reducible refine below_run ?_ (by assumption)) | (with_reducible refine below_of_upd ?_ (by assumption) ?_) | (with_reducible refine below_drewN ?_ _) | (with_reducible refine Below.drew ?_) | (with_reducible refine below_seven ?_ ?_) | (with_reducible refine below_six ?_ ?_) | (with_reducible refine below_one ?_ ?_) | (with_reducible refine Below.alloc ?_ ?_ _) | (with_reducible refine below_after ?_ ?_ (by assumption)) | (show _ ≤ _; first | omega | (simp; done) | (simp; omega))))))
          simp [results, Tryz.results12, go_sem, *]
  · have e9 : (n != 0) = true := by simpa using z
    have hB : beginE l src seq = n := by rw [beginE, if_pos (by rw [HN.out]; exact z), HN.out]
    have HE := Lib.hid (show searchE l src seq low high = n by rw [searchE, if_pos (by rw [hB]; exact z), hB])
    have HU := Lib.hid (show searchU l src seq low high = zeroS by rw [searchU, if_neg (by rw [HE.out]; exact z)])
    clear z hB
    go_wp2
    rw [HE.out, HU.out]
    refine bodyPost_ret (v := .tuple #[.slice none 0 0, .agg #[.slice none 0 0, .int .i64 0], .int .i64 n]) ?_ rfl (find_bad (by have := HB1.out; (repeat' (first | (with_reducible exact Below.refl _ _) | (with_reducible assumption) | (with_reducible refine below_run ?_ (by assumption)) | (with_reducible refine below_of_upd ?_ (by assumption) ?_) | (with_reducible refine below_drewN ?_ _) | (with_reducible refine Below.drew ?_) | (with_reducible refine below_seven ?_ ?_) | (with_reducible refine below_six ?_ ?_) | (with_reducible refine below_one ?_ ?_) | (with_reducible refine Below.alloc ?_ ?_ _) | (with_reducible refine below_after ?_ ?_ (by assumption)) | (show _ ≤ _; first | omega | (simp; done) | (simp; omega))))))
    simp [results, Tryz.results12, go_sem, *]
end Go.Proofs.YtiemdccjphdbmaaGreat
