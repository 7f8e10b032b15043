/-
  Refresh: the program.
-/
import Derived.Test.YtiemdccjphdbmaaGreatKn
namespace Go.Proofs.YtiemdccjphdbmaaGreat
open Go.RowKit

set_option maxHeartbeats 8000000 in
set_option maxRecDepth 100000 in
theorem refresh_any (v vk : Value) (l : List Dev) (k : List Int) (src : Int) (w : World) (hv : DevsAt w v l) (hk : IdsAt w vk k) (hcap : CapOk vk) :
    Calls Tryz.prog 22 #[v, .int .u64 src, vk] w (RefrPost (refrE l src k) (refrU l src k) (refrL l src k) w) := by
  have hz : (w.alloc (.cells #[.slice none 0 0, .int .i64 0] 32)).heap.size = w.heap.size + 1 := by simp
  have hv' := hv.alloc (.cells #[.slice none 0 0, .int .i64 0] 32)
  have C := Lib.hid (begun_any v l src 0 _ hv')
  have hzr : RowAt (w.alloc (.cells #[.slice none 0 0, .int .i64 0] 32)) w.heap.size 32 #[.slice none 0 0, .int .i64 0] := RowAt.new _ _ _
  obtain ⟨n, hn⟩ : ∃ n, beginE l src 0 = n := ⟨_, rfl⟩
  rw [hn] at C
  have hln : ∀ a m c, vk = .slice a m c → m = k.length := by
    rintro a m c rfl
    rcases hk with ⟨h0, _, _, e⟩ | ⟨_, _, _, _, _, e, _⟩ <;> cases e <;> omega
  have HN := Lib.hid hn
  have HB0 := Lib.hid ((Below.refl w.heap.size w).alloc (Nat.le_refl _) (.cells #[.slice none 0 0, .int .i64 0] 32))
  have HZR := Lib.hid hzr
  have HK := Lib.hid hk
  have HK0 := Lib.hid hk
  obtain ⟨sa, sk, sc, rfl⟩ := slice_of hk
  obtain rfl := hln _ _ _ rfl
  have HCAP := Lib.hid (hcap _ _ _ rfl)
  clear hv hv' hn hzr hk hln hcap
  go_enter Tryz.func22, Tryz.ntmps22
  go_wp2_with fail
  refine C.out.mono ?_
  rintro e w1 ⟨hb1, ⟨hn0, rfl⟩ | ⟨rfl, s, m, rfl, hs0, hm0, hsat⟩⟩
  · have HE := Lib.hid (show refrE l src k = n by rw [refrE, if_pos (by rw [HN.out]; exact hn0), HN.out])
    have HZ := Lib.hid (refr_zero HE.out hn0)
    have e9 : (n != 0) = true := by simpa using hn0
    have hr1 := HZR.out.run hb1
    obtain ⟨x1, x2, x3, x4, x5, x6⟩ := row_facts hr1
    have HB := Lib.hid (below_run HB0.out hb1)
    clear hn0 hr1 hb1
    go_wp2
    rw [HE.out, HZ.out.1, HZ.out.2]
    refine bodyPost_ret (v := .tuple #[.slice none 0 0, .agg #[.slice none 0 0, .int .i64 0], .slice none 0 0, .int .i64 n]) ?_ rfl (refr_bad (by have := HB.out; (repeat' (first | (with_reducible exact Below.refl _ _) | (with_reducible assumption) | (with_reducible refine below_run ?_ (by assumption)) | (with_reducible refine below_of_upd ?_ (by assumption) ?_) | (with_reducible refine below_drewN ?_ _) | (with_reducible refine Below.drew ?_) | (with_reducible refine below_seven ?_ ?_) | (with_reducible refine below_six ?_ ?_) | (with_reducible refine below_one ?_ ?_) | (with_reducible refine Below.alloc ?_ ?_ _) | (with_reducible refine below_after ?_ ?_ (by assumption)) | (show _ ≤ _; first | omega | (simp; done) | (simp; omega))))))
    simp [results, Tryz.results22, go_sem, *]
  · rw [hz] at hs0 hm0 hsat
    have hr1 := HZR.out.run hb1
    have hok := start_ok HN.out
    have hE : refrE l src k = knownE k := by rw [refrE, if_neg (not_not_intro HN.out)]
    have hb := below_run HB0.out hb1
    obtain ⟨x1, x2, x3, x4, x5, x6⟩ := row_facts hr1
    have hz1 : w.heap.size + 1 ≤ w1.heap.size := by have := hb1.size; simp at this; omega
    have HK1 := Lib.hid (HK.out.run hb)
    have HB := Lib.hid hb
    have HR1 := Lib.hid hr1
    have HOK := Lib.hid hok
    have HSAT := Lib.hid hsat
    have HKE := Lib.hid hE
    clear hb1 hb hr1 hok hsat hE C HK
    by_cases h64 : 64 < k.length
    · have h64' : (64 : Int) < (k.length : Int) := by omega
      have HE := Lib.hid (show refrE l src k = 5 by rw [HKE.out, knownE, if_pos h64])
      have HZ := Lib.hid (refr_zero HE.out (by decide))
      clear h64
      go_wp2
      rw [HE.out, HZ.out.1, HZ.out.2]
      refine bodyPost_ret (v := .tuple #[.slice none 0 0, .agg #[.slice none 0 0, .int .i64 0], .slice none 0 0, .int .i64 5]) ?_ rfl (refr_bad (by have := HB.out; (repeat' (first | (with_reducible exact Below.refl _ _) | (with_reducible assumption) | (with_reducible refine below_run ?_ (by assumption)) | (with_reducible refine below_of_upd ?_ (by assumption) ?_) | (with_reducible refine below_drewN ?_ _) | (with_reducible refine Below.drew ?_) | (with_reducible refine below_seven ?_ ?_) | (with_reducible refine below_six ?_ ?_) | (with_reducible refine below_one ?_ ?_) | (with_reducible refine Below.alloc ?_ ?_ _) | (with_reducible refine below_after ?_ ?_ (by assumption)) | (show _ ≤ _; first | omega | (simp; done) | (simp; omega))))))
      simp [results, Tryz.results22, go_sem, *]
    · have h64' : (k.length : Int) ≤ 64 := by omega
      have HKN := Lib.hid (show refrE l src k = knE [] k by rw [HKE.out, knownE, if_neg h64])
      have h64n : k.length ≤ 64 := by omega
      clear h64
      go_wp2
      go_loopw [12, 13, 33] (fun _ _ i wr => ∃ j : Nat, j ≤ k.length ∧ i = .int .i64 j ∧ Hid (knE [] k = knE (k.take j) (k.drop j)) ∧ Below w1.heap.size w1 wr) (fun _ _ i _ => k.length - (intOf i).toNat)
      case atStart => exact ⟨0, Nat.zero_le _, rfl, rfl, Below.refl _ _⟩
      case round =>
        obtain ⟨j, hj, rfl, hE2, hbr⟩ := hrel
        by_cases hlt2 : j < k.length
        · have hlt3 : (j : Int) < (k.length : Int) := by omega
          have hj0 : (0 : Int) ≤ (j : Int) := by omega
          have hjc : (j : Int) ≤ (sc : Int) := by have := HCAP.out; omega
          have hKr := HK1.out.run hbr
          rcases hKr with ⟨h0, _⟩ | ⟨h0, h1, b, off, cap, hvv, hlt, hcel⟩
          · omega
          · cases hvv
            obtain ⟨x, hx, e0⟩ := id_cell hcel j hlt2
            have HX := Lib.hid hx
            have HPT := Lib.hid (fun (W : World) (h : Below wr.heap.size wr W) (cp : Nat) => (IdsAt.part (cap := cp) hlt (by omega) hcel (show j ≤ k.length by omega)).run h)
            have hrr := HR1.out.run hbr
            obtain ⟨y1, y2, y3, y4, y5, y6⟩ := row_facts hrr
            have HBR := Lib.hid hbr
            have HHB := Lib.hid (below_run HB.out hbr)
            obtain ⟨q, hq⟩ : ∃ q, isId x = q := ⟨_, rfl⟩
            have CI := Lib.hid (fun W => ident_any x W)
            rw [hq] at CI
            have HQ := Lib.hid hq
            clear hx hcel hbr hrr hq x1 x2 x3 x4 x5 x6
            go_wp2_with fail
            refine (CI.out _).mono ?_
            rintro e w2 ⟨rfl, rfl⟩
            cases q with
            | false =>
              have HE := Lib.hid (show refrE l src k = 2 by rw [HKN.out, hE2.out, drop_int HX.out, kn_bad HQ.out])
              have HZ := Lib.hid (refr_zero HE.out (by decide))
              go_wp2
              rw [HE.out, HZ.out.1, HZ.out.2]
              refine bodyPost_ret (v := .tuple #[.slice none 0 0, .agg #[.slice none 0 0, .int .i64 0], .slice none 0 0, .int .i64 2]) ?_ rfl (refr_bad (by have := HHB.out; (repeat' (first | (with_reducible exact Below.refl _ _) | (with_reducible assumption) | (with_reducible refine below_run ?_ (by assumption)) | (with_reducible refine below_of_upd ?_ (by assumption) ?_) | (with_reducible refine below_drewN ?_ _) | (with_reducible refine Below.drew ?_) | (with_reducible refine below_seven ?_ ?_) | (with_reducible refine below_six ?_ ?_) | (with_reducible refine below_one ?_ ?_) | (with_reducible refine Below.alloc ?_ ?_ _) | (with_reducible refine below_after ?_ ?_ (by assumption)) | (show _ ≤ _; first | omega | (simp; done) | (simp; omega))))))
              simp [results, Tryz.results22, go_sem, *]
            | true =>
              obtain ⟨p, hp⟩ : ∃ p, decide (x ∈ k.take j) = p := ⟨_, rfl⟩
              go_wp2_with fail
              refine (contains_ids _ (k.take j) x _ (HPT.out _ (Below.refl _ _) _)).mono ?_
              rw [hp]
              rintro e w3 ⟨rfl, hb3⟩
              have hrr := HR1.out.run (below_run HBR.out hb3)
              obtain ⟨z1, z2, z3, z4, z5, z6⟩ := row_facts hrr
              have HB3 := Lib.hid (below_run HHB.out hb3)
              have hb13 := below_run HBR.out hb3
              have HP := Lib.hid hp
              clear y1 y2 y3 y4 y5 y6 hb3 hrr hp
              cases p with
              | true =>
                have HE := Lib.hid (show refrE l src k = 7 by rw [HKN.out, hE2.out, drop_int HX.out, kn_twice HQ.out (of_decide_eq_true HP.out)])
                have HZ := Lib.hid (refr_zero HE.out (by decide))
                clear hb13
                go_wp2
                rw [HE.out, HZ.out.1, HZ.out.2]
                refine bodyPost_ret (v := .tuple #[.slice none 0 0, .agg #[.slice none 0 0, .int .i64 0], .slice none 0 0, .int .i64 7]) ?_ rfl (refr_bad (by have := HB3.out; (repeat' (first | (with_reducible exact Below.refl _ _) | (with_reducible assumption) | (with_reducible refine below_run ?_ (by assumption)) | (with_reducible refine below_of_upd ?_ (by assumption) ?_) | (with_reducible refine below_drewN ?_ _) | (with_reducible refine Below.drew ?_) | (with_reducible refine below_seven ?_ ?_) | (with_reducible refine below_six ?_ ?_) | (with_reducible refine below_one ?_ ?_) | (with_reducible refine Below.alloc ?_ ?_ _) | (with_reducible refine below_after ?_ ?_ (by assumption)) | (show _ ≤ _; first | omega | (simp; done) | (simp; omega))))))
                simp [results, Tryz.results22, go_sem, *]
              | false =>
                go_wp2
                go_roundw
                case rel => exact ⟨j + 1, by omega, by go_num, by show knE [] k = _; rw [hE2.out, drop_int HX.out, kn_on HQ.out (of_decide_eq_false HP.out), take_succ_some HX.out], hb13⟩
                case measure => simp [intOf]; omega
        · rename World => wh
          obtain rfl : j = k.length := by omega
          have hKN : refrE l src k = 0 := by
            rw [HKN.out, hE2.out, List.drop_length]
            rfl
          have hkn0 : knE [] k = 0 := by rw [← HKN.out, hKN]
          have HE := Lib.hid hKN
          have HKR := Lib.hid (kn_right k [] hkn0)
          have HU := Lib.hid (show refrU l src k = searchS src 48 1 281474976710654 (refrP l src k).1 by rw [refrU, if_pos hKN])
          have HL := Lib.hid (show refrL l src k = (refrP l src k).2 by rw [refrL, if_pos hKN])
          have hsr := HSAT.out.run hbr
          have hzr := hbr.size
          have HKW := Lib.hid (HK1.out.run hbr)
          have HRR := Lib.hid (HR1.out.run hbr)
          have HBB := Lib.hid (below_run HB.out hbr)
          have CO := Lib.hid (order_any (w.heap.size + 1) wh.heap.size s m src (startS l 0) [] 3 281474976710655 wh (hsr.rebase rfl _) hs0 HOK.out.devs (unm_chk HOK.out) HOK.out.q0 HOK.out.q1)
          have HOK1 : Hid (Sok src (unmS src l)) := order_ok HOK.out (.inr rfl)
          have HSL := Lib.hid hsr.lt
          clear hKN hkn0 hsr hbr x1 x2 x3 x4 x5 x6 hE2 HKN HSAT HB HK1 HR1 hj hlt2
          go_wp2_with fail
          refine CO.out.mono ?_
          rintro e w2 ⟨rfl, hs1, hst1⟩
          have HST1 := Lib.hid hst1.weak
          have hs1' : SAt w2 wh.heap.size s m src (unmS src l) ((unmS src l).known ++ (unmS src l).found) := hs1
          have HS1 := Lib.hid hs1'
          have hz2 := hst1.below.size
          have hbw2 : Below w.heap.size w w2 := HBB.out.trans (HST1.out.below.mono (by omega))
          have HBW2 := Lib.hid hbw2
          have HR2 := Lib.hid (RowAt.below HRR.out HST1.out.below (by omega))
          obtain ⟨U, hU⟩ : ∃ U, unmS src l = U := ⟨_, rfl⟩
          have HUN : Hid (refrP l src k = refrS src k U []) := by show refrP l src k = _; rw [refrP, hU]
          have HUK : Hid (U.known = [] ∧ U.found = []) := by rw [← hU]; exact ⟨rfl, rfl⟩
          rw [hU] at HOK1 HS1
          clear hs1 hs1' hst1 CO hbw2 hU HRR HBB HST1
          go_wp2
          go_loopw [14, 16, 53] (fun vl _ i wr => ∃ j : Nat, j ≤ k.length ∧ i = .int .i64 j ∧ wr.ownsRow w2.heap.size 23 1 vl (refrS src (k.take j) U []).2.length (u64L (refrS src (k.take j) U []).2) ∧ SAt wr wh.heap.size s m src (refrS src (k.take j) U []).1 ((refrS src (k.take j) U []).1.known ++ (refrS src (k.take j) U []).1.found) ∧ Below (w.heap.size + 1) w2 wr) (fun _ _ i _ => k.length - (intOf i).toNat)
          case atStart => exact ⟨0, Nat.zero_le _, rfl, World.ownsRow_nil _ _ _ _, HS1.out, Below.refl _ _⟩
          case round =>
            obtain ⟨j, hj, rfl, hown, hsq, hbq⟩ := hrel
            have hzq := hbq.size
            by_cases hlt2 : j < k.length
            · have hlt3 : (j : Int) < (k.length : Int) := by omega
              have hj0 : (0 : Int) ≤ (j : Int) := by omega
              have hbw : Below w.heap.size w wr := HBW2.out.trans (hbq.mono (by omega))
              have hKr := HK0.out.run hbw
              rcases hKr with ⟨h0, _⟩ | ⟨h0, h1, b, off, cap, hvv, hlt, hcel⟩
              · omega
              · cases hvv
                obtain ⟨x, hx, e0⟩ := id_cell hcel j hlt2
                obtain ⟨a1, a2, a3, a4⟩ := refr_all (src := src) (k.take j) U [] HOK1.out
                have hsn := refr_snoc src x (k.take j) U []
                rw [← take_succ_some hx] at hsn
                obtain ⟨P, hP⟩ : ∃ P, refrS src (k.take j) U [] = P := ⟨_, rfl⟩
                rw [hP] at hown hsq a1 a2 a3 a4 hsn
                have hf : P.1.found = [] := by rw [a2, HUK.out.2]
                have hxi : isId x = true := (HKR.out.1 x (List.mem_of_getElem? hx)).1
                have hxk : x ∉ P.1.known ++ P.1.found := by
                  rw [hf, List.append_nil]
                  intro e
                  rcases a3 x e with e | e
                  · rw [HUK.out.1] at e
                    cases e
                  · rw [List.mem_take_iff_getElem] at e
                    obtain ⟨i, hi, he⟩ := e
                    have hjk : k[j]? = some x := hx
                    have hi1 : i < j := by omega
                    have hlen : i < k.length := by omega
                    have hpw := List.pairwise_iff_getElem.1 HKR.out.2 i j hlen hlt2 hi1
                    rw [List.getElem?_eq_getElem hlt2] at hjk
                    exact hpw (he.trans (Option.some.inj hjk).symm)
                have CM := Lib.hid (mute_any (w.heap.size + 1) wh.heap.size s m src P.1 _ x wr hsq hs0 hm0 a1.devs (ord_chk a1.id a1.q0 a1.q1 (.inl rfl) (.inl hxi)) a1.q0 a1.q1 hxk)
                obtain ⟨q, hq⟩ : ∃ q, orderB src P.1 2 x = q := ⟨_, rfl⟩
                rw [hq] at CM hsn
                have HSN := Lib.hid hsn
                have HOW := Lib.hid hown
                have HQ := Lib.hid hq
                have HF := Lib.hid hf
                have HBQ := Lib.hid hbq
                have HA4 := Lib.hid a4
                have HLS := Lib.hid hsq.lt
                have HNE := Lib.hid (fun g cur (hg : RowAt wr g 23 cur) => sat_ne hsq hg)
                clear hbw hcel hx a1 a2 a3 a4 hsn hown hsq hP hf hxi hxk hq hbq
                go_wp2_with fail
                refine CM.out.mono ?_
                rintro e w3 ⟨rfl, hs3, hst3⟩
                have own3 : w3.ownsRow w2.heap.size 23 1 _ P.2.length (u64L P.2) := own_rows HOW.out (fun g cur hg _ => hst3.rows g _ cur hg (HNE.out g cur hg) (.inl rfl))
                have hb3 : Below (w.heap.size + 1) w2 w3 := HBQ.out.trans hst3.below
                have hz3 := hst3.below.size
                cases q with
                | true =>
                  have hs3' : SAt w3 wh.heap.size s m src (muteS src P.1 x) ((muteS src P.1 x).known ++ (muteS src P.1 x).found) := by
                    have e1 : (muteS src P.1 x).known = P.1.known ++ [x] := by show (if orderB src P.1 2 x then _ else _) = _; rw [HQ.out]; rfl
                    have e2 : (muteS src P.1 x).found = [] := HF.out
                    rw [e1, e2, List.append_nil]
                    have := hs3.known (if orderB src P.1 2 x then P.1.known ++ [x] else P.1.known)
                    rw [HF.out, List.append_nil] at this
                    exact this
                  have HS3 := Lib.hid hs3'
                  have HO3 := Lib.hid own3
                  clear hs3 hs3' own3 hst3 CM e0
                  go_wp2
                  go_roundw
                  case rel =>
                    refine ⟨j + 1, by omega, by go_num, ?_, ?_, hb3⟩
                    · rw [HSN.out]
                      exact HO3.out
                    · rw [HSN.out]
                      exact HS3.out
                  case measure => simp [intOf]; omega
                | false =>
                  obtain ⟨i0, hi, hz0, hz1', hz2'⟩ := info_parts Tryz.info_u64
                  have hs3' : SAt w3 wh.heap.size s m src (muteS src P.1 x) ((muteS src P.1 x).known ++ (muteS src P.1 x).found) := by
                    have e1 : (muteS src P.1 x).known = P.1.known := by show (if orderB src P.1 2 x then _ else _) = _; rw [HQ.out]; rfl
                    have e2 : (muteS src P.1 x).found = P.1.found := rfl
                    rw [e1, e2]
                    exact hs3.known _
                  have HS3 := Lib.hid (hs3'.alloc (.cells #[.int .u64 x] 23))
                  have own4 := own_run own3 ((Below.refl _ _).alloc (Nat.le_refl _) (.cells #[.int .u64 x] 23))
                  have hnew : RowAt (w3.alloc (.cells #[.int .u64 x] 23)) w3.heap.size 23 #[.int .u64 x] := RowAt.new _ _ _
                  have hb4 := hb3.alloc (by omega) (.cells #[.int .u64 x] 23)
                  have hlen : P.2.length ≤ 64 := by have := HA4.out; simp at this; omega
                  clear hs3 hs3' own3 hst3 CM e0 hb3
                  go_wp2_with (at_builtin; refine wpList_append_own _ rfl (.tmp 61) (.tmp 63) 30 rfl w2.heap.size 23 i0 _ 1 8 Tryz.underlying30 hi hz0 hz1' hz2' rfl (by decide) _ _ _ rfl own4 ⟨w3.heap.size, 0, none⟩ 1 1 [.int .u64 x] rfl rfl ?c1 ?c2 ?c3 ?c4 ?c5 ?_)
                  case c1 =>
                    intro j u hj
                    match j, hj with
                    | 0, hj =>
                      simp at hj
                      subst hj
                      exact (row_facts hnew).1 0
                  case c2 => intro u hu; simp at hu; subst hu; rfl
                  case c3 => unfold maxLen; omega
                  case c4 => omega
                  case c5 => simp; omega
                  · intro v' w5 hown5 hgrow _
                    have hs5 := HS3.out.grown HF.out own4 hgrow
                    have hb5 := below_grown hb4 own4 (by omega) hgrow (by simp; omega)
                    have HS5 := Lib.hid hs5
                    have HO5 := Lib.hid hown5
                    clear hs5 hown5 hgrow own4 hnew hb4
                    go_wp2
                    go_roundw
                    case rel =>
                      refine ⟨j + 1, by omega, by go_num, ?_, ?_, hb5⟩
                      · rw [HSN.out]
                        show World.ownsRow _ _ _ 1 _ (P.2 ++ [x]).length (u64L (P.2 ++ [x]))
                        rw [List.length_append, u64L, List.map_append]
                        exact HO5.out
                      · rw [HSN.out]
                        exact HS5.out
                    case measure => simp [intOf]; omega
            · obtain rfl : j = k.length := by omega
              rw [List.take_length] at hown hsq
              obtain ⟨a1, a2, a3, a4⟩ := refr_all (src := src) k U [] HOK1.out
              have hUN := HUN.out
              obtain ⟨P, hP⟩ : ∃ P, refrS src k U [] = P := ⟨_, rfl⟩
              rw [hP] at hown hsq a1 a2 a3 a4 hUN
              have hf : P.1.found = [] := by rw [a2, HUK.out.2]
              have CA := Lib.hid (all_any (w.heap.size + 1) wr.heap.size s m src hs0 hm0 (by omega) 48 1 281474976710654 P.1 wr (Nat.le_refl _) all_in.1 all_in.2.1 all_in.2.2.1 all_in.2.2.2 a1 (hsq.rebase hf _))
              have HSO := Lib.hid (search_ok 48 1 281474976710654 P.1 all_in.1 all_in.2.1 all_in.2.2.1 a1)
              have HU2 : Hid (refrU l src k = searchS src 48 1 281474976710654 P.1) := by show refrU l src k = _; rw [HU.out, hUN]
              have HL2 : Hid (refrL l src k = P.2) := by show refrL l src k = _; rw [HL.out, hUN]
              obtain ⟨u, hu⟩ : ∃ u, searchS src 48 1 281474976710654 P.1 = u := ⟨_, rfl⟩
              rw [hu] at CA HSO HU2
              have HOW := Lib.hid hown
              have HBQ := Lib.hid hbq
              have HA4 := Lib.hid a4
              have HSQ := Lib.hid hsq
              obtain ⟨la, lm, lc, rfl⟩ : ∃ a k c, u14 = .slice a k c := by
                rcases hown.2 with ⟨rfl, _⟩ | ⟨g, cap, cur, rfl, _⟩
                · exact ⟨_, _, _, rfl⟩
                · exact ⟨_, _, _, rfl⟩
              have HRQ := Lib.hid (RowAt.below HR2.out hbq (by omega))
              clear hown hsq a1 a2 a3 a4 hUN hP hf hu hbq hlt2 hj
              go_wp2_with fail
              refine CA.out.mono ?_
              rintro e w3 ⟨rfl, hs2, hst2⟩
              have hr2 := RowAt.below HRQ.out hst2.below (by omega)
              have hb2 : Below w.heap.size w w3 := (HBW2.out.trans (HBQ.out.mono (by omega))).trans (hst2.below.mono (by omega))
              have ownl := own_rows HOW.out (fun g cur hg _ => hst2.rows g _ cur hg (sat_ne HSQ.out hg) (.inr (.inr (lt_of_block hg))))
              have hpl := HA4.out
              have hil : IdsAt w3 (.slice la lm lc) P.2 := own_ids ownl rfl (by simp at hpl; omega)
              have HIL := Lib.hid hil
              clear ownl hil hpl CA HSQ HOW
              obtain ⟨⟨vd, vf, hr, hdv, hown, hty, hnil⟩, hs⟩ := hs2
              obtain ⟨fa, fn, fc, rfl⟩ : ∃ a k c, vf = .slice a k c := by
                rcases hown.2 with ⟨rfl, _⟩ | ⟨g, cap, cur, rfl, _⟩
                · exact ⟨_, _, _, rfl⟩
                · exact ⟨_, _, _, rfl⟩
              have c0 : w3.cell? ⟨s, 0, none⟩ = some vd := cell_fact hr 0
              have c4 : w3.cell? ⟨s, 4, none⟩ = some (.slice fa fn fc) := cell_fact hr 4
              have c5 : w3.cell? ⟨s, 5, none⟩ = some (.int .i64 (IntKind.i64.wrap u.msgs)) := cell_fact hr 5
              obtain ⟨N, hN⟩ : ∃ N, IntKind.i64.wrap (u.msgs : Int) = N := ⟨_, rfl⟩
              rw [hN] at c5
              obtain ⟨y1, y2, y3, y4, y5, y6⟩ := row_facts hr2
              have hsz := lt_of_block hr
              (try (have hn : ¬ s = w.heap.size := (by omega); have hn' : ¬ w.heap.size = s := (by omega)))
              have HR2' := Lib.hid hr2
              have PTS := Lib.hid (parts_two (u1 := .slice fa fn fc) (u2 := .int .i64 N) hr2 hdv hty hown)
              have HB2 := Lib.hid hb2
              have HNN := Lib.hid hN
              clear hr hdv hown hty hnil hs hst2 hr2 hb2 hN
              go_wp2_with fail
              go_region_held3 (fun w' => w'.cell? ⟨s, 0, none⟩ = some vd ∧ w'.cell? ⟨s, 4, none⟩ = some (.slice fa fn fc) ∧ w'.cell? ⟨s, 5, none⟩ = some (.int .i64 N)) (go_keep) (fail)
              all_goals go_wp2
              all_goals
                rw [HE.out, HU2.out, HL2.out]
                obtain ⟨p1, p2⟩ := PTS.out
                have hr3 : RowAt ((w3.setCell ⟨w.heap.size, 0, none⟩ (.slice fa fn fc)).setCell ⟨w.heap.size, 1, none⟩ (.int .i64 N)) w.heap.size 32 #[.slice fa fn fc, .int .i64 N] := RowAt.set (RowAt.set HR2'.out rfl) rfl
                have hfew := HSO.out.few
                refine bodyPost_ret (v := .tuple #[vd, .agg #[.slice fa fn fc, .int .i64 N], .slice la lm lc, .int .i64 0]) ?_ rfl ⟨_, _, _, by rw [HNN.out], p1, own_ids p2 rfl (by omega), ids_two HR2'.out HIL.out, Below.drew (below_one (below_one HB2.out (Nat.le_refl _)) (Nat.le_refl _))⟩
                simp [results, Tryz.results22, go_sem, cell_fact hr3]
end Go.Proofs.YtiemdccjphdbmaaGreat
