/-
  The walk of the law DiscoveryAll.
-/
import Derived.Test.YtiemdccjphdbmaaGreatRg
import Derived.Test.YtiemdccjphdbmaaGreatAk
import Derived.Test.YtiemdccjphdbmaaGreatIx
import Derived.Test.YtiemdccjphdbmaaGreatDn
import Derived.Test.YtiemdccjphdbmaaGreatRf
import Derived.Deep.RegionHeld
import Derived.Deep.RegionHeld3
namespace Go.Proofs.YtiemdccjphdbmaaGreat
open Go.RowKit

set_option maxHeartbeats 8000000 in
set_option maxRecDepth 100000 in
theorem law_all (v : Value) (l : List Dev) (src : Int) (w : World) (hv : DevsAt w v l) (hr : l.length * 56 ≤ 140737488351232) :
    Calls Tryz.prog 6 #[v, .int .u64 src] w fun e w' => e = .returned (.bool true) ∧ Below w.heap.size w w' := by
  obtain ⟨q1, h1⟩ : ∃ q, rightD l = q := ⟨_, rfl⟩
  have H1 := Lib.hid h1
  have HV := Lib.hid hv
  clear hv h1
  go_enter Tryz.func6, Tryz.ntmps6
  go_wp2_with fail
  refine (lright_any q1 _ l _ HV.out hr H1.out).mono ?_
  rintro e w2 ⟨rfl, hb2⟩
  have HB2 := Lib.hid hb2
  have HV2 := Lib.hid (HV.out.run hb2)
  clear hb2
  cases q1 with
  | false =>
    go_wp2_with fail
    refine (awake48_any _).mono ?_
    rintro e w9 ⟨rfl, hb9⟩
    go_wp2
    go_ret
    exact ⟨rfl, below_run HB2.out hb9⟩
  | true =>
  obtain ⟨q2, h2⟩ : ∃ q, isId src = q := ⟨_, rfl⟩
  have C2 := Lib.hid (Is_is q2 src h2)
  have H2 := Lib.hid h2
  clear h2
  go_wp2_with fail
  refine (C2.out _).mono ?_
  rintro e w3 ⟨rfl, rfl⟩
  cases q2 with
  | false =>
    go_wp2_with fail
    refine (awake48_any _).mono ?_
    rintro e w9 ⟨rfl, hb9⟩
    go_wp2
    go_ret
    exact ⟨rfl, below_run HB2.out hb9⟩
  | true =>
  obtain ⟨r1, r2, r3⟩ := rightD_spec H1.out
  obtain ⟨hE, hF⟩ := find_all r3 H2.out
  have CS0 := dfind_any v l src w2 HV2.out
  obtain ⟨u, hu⟩ : ∃ u, findU l src = u := ⟨_, rfl⟩
  unfold FindPost at CS0
  rw [hu] at hF
  have hms := hF.msgs
  have hwm : IntKind.i64.wrap (u.msgs : Int) = (u.msgs : Int) := IntWalk.i64_in _ (by omega)
  rw [hE, hu, hF.devs, hwm] at CS0
  have hfl : u.found.length = l.length := by simpa using hF.found.length_eq
  have CS := Lib.hid CS0
  have HF := Lib.hid hF
  have hm0 : (0 : Int) ≤ (u.msgs : Int) := by omega
  have hm1 : ¬ 3 + 200 * (l.length : Int) < (u.msgs : Int) := by omega
  have hl8 : (l.length : Int) ≤ 8 := by omega
  have hl0 : (0 : Int) ≤ (l.length : Int) := by omega
  obtain ⟨M, hM⟩ : ∃ M : Int, (u.msgs : Int) = M := ⟨_, rfl⟩
  rw [hM] at hm0 hm1
  have HFL := Lib.hid hfl
  have HM := Lib.hid hM
  clear CS0 hE hu hF hms hwm r2 r3 hfl hM
  go_wp2_with fail
  refine CS.out.mono ?_
  rintro e w3 ⟨v3, vf3, rfl, hd3, hi3, hb3⟩
  rw [HM.out]
  obtain ⟨fa, fn, fc, rfl⟩ := slice_of hi3
  have hln3 : ∀ a m c, v3 = .slice a m c → m = l.length := by
    rintro a m c rfl
    have : (l.map fun d => ({ d with mu := true } : Dev)).length = l.length := List.length_map _
    rcases hd3 with ⟨h0, _, _, e⟩ | ⟨_, _, _, _, _, e, _⟩ <;> cases e <;> omega
  have hln : ∀ a m c, v = .slice a m c → m = l.length := by
    rintro a m c rfl
    rcases HV2.out with ⟨h0, _, _, e⟩ | ⟨_, _, _, _, _, e, _⟩ <;> cases e <;> omega
  obtain ⟨ya, yn, yc, rfl⟩ := slice_of hd3
  obtain rfl := hln3 _ _ _ rfl
  obtain ⟨sa, sk, sc, rfl⟩ := slice_of HV2.out
  obtain rfl := hln _ _ _ rfl
  have hv3 := HV2.out.run hb3
  have hbw := below_run HB2.out hb3
  go_upto_region 4 with fail
  have hbb : Below w3.heap.size w3 (w3.alloc (.cells #[.slice fa fn fc, .int .i64 M] 32)) := (Below.refl _ _).alloc (Nat.le_refl _) _
  have rF : RowAt (w3.alloc (.cells #[.slice fa fn fc, .int .i64 M] 32)) w3.heap.size 32 #[.slice fa fn fc, .int .i64 M] := RowAt.new _ _ _
  have kV := hv3.run hbb
  have kD := hd3.run hbb
  have kI := hi3.run hbb
  have kB := below_run hbw hbb
  have hk1 := hbw.size
  generalize (w3.alloc (.cells #[.slice fa fn fc, .int .i64 M] 32)) = x at rF kV kD kI kB ⊢
  generalize w3.heap.size = k1 at rF hk1 ⊢
  obtain ⟨x1, x2, x3, x4, x5, x6⟩ := row_facts rF
  have RF := Lib.hid rF
  have KV := Lib.hid kV
  have KD := Lib.hid kD
  have KI := Lib.hid kI
  have KB := Lib.hid kB
  clear rF kV kD kI kB hbb hv3 hd3 hi3 hb3 hbw HV2 HB2 CS hln hln3 C2 HV
  go_wp2_with fail
  go_loopw [8, 9, 47] (fun _ _ i wr => ∃ j : Nat, j ≤ l.length ∧ i = .int .i64 j ∧ Below x.heap.size x wr) (fun _ _ i _ => l.length - (intOf i).toNat)
  case atStart => exact ⟨0, Nat.zero_le _, rfl, Below.refl _ _⟩
  case round =>
    obtain ⟨j, hj, rfl, hbr⟩ := hrel
    clear x1 x2 x3 x4 x5 x6
    by_cases hlt2 : j < l.length
    · have hlt3 : (j : Int) < (l.length : Int) := by omega
      have hj0 : (0 : Int) ≤ (j : Int) := by omega
      rcases KV.out.run hbr with ⟨h0, _⟩ | ⟨h0, h1, b, off, cap, hvv, hlt, hcel⟩
      · omega
      cases hvv
      obtain ⟨d, hd, e0, e1, e2, e3, e4, e5, e6⟩ := dev_cells hcel j hlt2
      have hms : (l.map fun d => ({ d with mu := true } : Dev)).length = l.length := List.length_map _
      rcases KD.out.run hbr with ⟨h0', _⟩ | ⟨h0', h1', b2, off2, cap2, hvv2, hltb, hcel2⟩
      · omega
      obtain ⟨rfl, -, rfl⟩ : ya = some ⟨b2, off2, none⟩ ∧ l.length = (l.map fun d => ({ d with mu := true } : Dev)).length ∧ yc = cap2 := by injection hvv2 with e1 e2 e3; exact ⟨e1, e2, e3⟩
      clear hvv2
      obtain ⟨d2, hd2, f0, f1, f2, f3, f4, f5, f6⟩ := dev_cells hcel2 j (by omega)
      rw [List.getElem?_map, hd] at hd2
      obtain rfl : d2 = { d with mu := true } := (Option.some.inj hd2).symm
      have HBR := Lib.hid hbr
      have hrz := hbr.size
      clear hcel hcel2 hms hd2 hd hbr
      have hne : ¬ wr.heap.size = b := by omega
      have hne' : ¬ b = wr.heap.size := by omega
      go_upto_region 12 with fail
      have R : RowAt (wr.alloc (.cells #[.int .u64 d.id, .int .i64 d.ft, .int .i64 d.ad, .string d.lb, .int .i64 d.hr, .bool d.mu, .bool d.idf] 66)) wr.heap.size 66 #[.int .u64 d.id, .int .i64 d.ft, .int .i64 d.ad, .string d.lb, .int .i64 d.hr, .bool d.mu, .bool d.idf] ∧ Below x.heap.size x (wr.alloc (.cells #[.int .u64 d.id, .int .i64 d.ft, .int .i64 d.ad, .string d.lb, .int .i64 d.hr, .bool d.mu, .bool d.idf] 66)) := ⟨RowAt.new _ _ _, HBR.out.alloc hrz _⟩
      have G := fun (o : Nat) => (((Below.refl wr.heap.size wr).alloc (Nat.le_refl _) (.cells #[.int .u64 d.id, .int .i64 d.ft, .int .i64 d.ad, .string d.lb, .int .i64 d.hr, .bool d.mu, .bool d.idf] 66)).cell (p := ⟨b, o, none⟩) hlt)
      replace e0 := (G _).trans e0
      replace e1 := (G _).trans e1
      replace e2 := (G _).trans e2
      replace e3 := (G _).trans e3
      replace e4 := (G _).trans e4
      replace e5 := (G _).trans e5
      replace e6 := (G _).trans e6
      have hlt10 : b < (wr.alloc (.cells #[.int .u64 d.id, .int .i64 d.ft, .int .i64 d.ad, .string d.lb, .int .i64 d.hr, .bool d.mu, .bool d.idf] 66)).heap.size := by simp; omega
      clear G
      generalize hgw : wr.alloc (.cells #[.int .u64 d.id, .int .i64 d.ft, .int .i64 d.ad, .string d.lb, .int .i64 d.hr, .bool d.mu, .bool d.idf] 66) = w11 at R e0 e1 e2 e3 e4 e5 e6 hlt10 ⊢
      generalize wr.heap.size = g10 at R hne hne' ⊢
      have HR := Lib.hid R
      clear R f0 f1 f2 f3 f4 f5 f6 hgw
      refine wp_region_noPanic ?_
      refine wp_region_held_drew (S := (fun w' => RowAt w' g10 66 #[.int .u64 d.id, .int .i64 d.ft, .int .i64 d.ad, .string d.lb, .int .i64 d.hr, .bool d.mu, .bool d.idf] ∧ w'.cell? ⟨b, off + j * 7, none⟩ = some (.int .u64 d.id) ∧ w'.cell? ⟨b, off + j * 7 + 1, none⟩ = some (.int .i64 d.ft) ∧ w'.cell? ⟨b, off + j * 7 + 2, none⟩ = some (.int .i64 d.ad) ∧ w'.cell? ⟨b, off + j * 7 + 3, none⟩ = some (.string d.lb) ∧ w'.cell? ⟨b, off + j * 7 + 4, none⟩ = some (.int .i64 d.hr) ∧ w'.cell? ⟨b, off + j * 7 + 5, none⟩ = some (.bool d.mu) ∧ w'.cell? ⟨b, off + j * 7 + 6, none⟩ = some (.bool d.idf))) (by kernel_rfl) ?_ (fun hHeld => ?_)
      · exact ⟨HR.out.1.drew, e0, e1, e2, e3, e4, e5, e6⟩
      refine wpAnyH_take (i := 0) (oi := _) (v := ?_) rfl (by kernel_rfl) (by kernel_rfl) (by kernel_rfl) (fun _ _ _ h => h) (Or.inl ⟨by rfl, ?_⟩) (by assumption) ?_
      rotate_left
      · intro w' hSw
        (obtain ⟨r1, c0, c1, c2, c3, c4, c5, c6⟩ := hSw; obtain ⟨p1, p2, p3, p4, p5, p6⟩ := row_facts r1)
        go_simp
        (try with_reducible rfl)
      (try simp only [Act.put, List.setIfInBounds_toArray, List.set_cons_zero, List.set_cons_succ, List.getElem_toArray, List.getElem_cons_zero])
      refine wpAnyH_take (i := 1) (oi := _) (v := ?_) rfl (by kernel_rfl) (by kernel_rfl) (by kernel_rfl) (fun _ _ _ h => h) (Or.inl ⟨by rfl, ?_⟩) (by assumption) ?_
      rotate_left
      · intro w' hSw
        (obtain ⟨r1, c0, c1, c2, c3, c4, c5, c6⟩ := hSw; obtain ⟨p1, p2, p3, p4, p5, p6⟩ := row_facts r1)
        go_simp
        (try with_reducible rfl)
      (try simp only [Act.put, List.setIfInBounds_toArray, List.set_cons_zero, List.set_cons_succ, List.getElem_toArray, List.getElem_cons_succ, List.getElem_cons_zero])
      refine wpAnyH_take (i := 2) (oi := _) (v := ?_) rfl (by kernel_rfl) (by kernel_rfl) (by kernel_rfl) (fun _ _ _ h => h) (Or.inl ⟨by rfl, ?_⟩) (by assumption) ?_
      rotate_left
      · intro w' hSw
        (obtain ⟨r1, c0, c1, c2, c3, c4, c5, c6⟩ := hSw; obtain ⟨p1, p2, p3, p4, p5, p6⟩ := row_facts r1)
        go_simp
        (try with_reducible rfl)
      (try simp only [Act.put, List.setIfInBounds_toArray, List.set_cons_zero, List.set_cons_succ, List.getElem_toArray, List.getElem_cons_succ, List.getElem_cons_zero])
      refine wpAnyH_take (i := 3) (oi := _) (v := ?_) rfl (by kernel_rfl) (by kernel_rfl) (by kernel_rfl) (fun _ _ _ h => h) (Or.inl ⟨by rfl, ?_⟩) (by assumption) ?_
      rotate_left
      · intro w' hSw
        (obtain ⟨r1, c0, c1, c2, c3, c4, c5, c6⟩ := hSw; obtain ⟨p1, p2, p3, p4, p5, p6⟩ := row_facts r1)
        go_simp
        (try with_reducible rfl)
      (try simp only [Act.put, List.setIfInBounds_toArray, List.set_cons_zero, List.set_cons_succ, List.getElem_toArray, List.getElem_cons_succ, List.getElem_cons_zero])
      refine wpAnyH_take (i := 4) (oi := _) (v := ?_) rfl (by kernel_rfl) (by kernel_rfl) (by kernel_rfl) (fun _ _ _ h => h) (Or.inl ⟨by rfl, ?_⟩) (by assumption) ?_
      rotate_left
      · intro w' hSw
        (obtain ⟨r1, c0, c1, c2, c3, c4, c5, c6⟩ := hSw; obtain ⟨p1, p2, p3, p4, p5, p6⟩ := row_facts r1)
        go_simp
        (try with_reducible rfl)
      (try simp only [Act.put, List.setIfInBounds_toArray, List.set_cons_zero, List.set_cons_succ, List.getElem_toArray, List.getElem_cons_succ, List.getElem_cons_zero])
      refine wpAnyH_take (i := 5) (oi := _) (v := ?_) rfl (by kernel_rfl) (by kernel_rfl) (by kernel_rfl) (fun _ _ _ h => h) (Or.inl ⟨by rfl, ?_⟩) (by assumption) ?_
      rotate_left
      · intro w' hSw
        (obtain ⟨r1, c0, c1, c2, c3, c4, c5, c6⟩ := hSw; obtain ⟨p1, p2, p3, p4, p5, p6⟩ := row_facts r1)
        go_simp
        (try with_reducible rfl)
      (try simp only [Act.put, List.setIfInBounds_toArray, List.set_cons_zero, List.set_cons_succ, List.getElem_toArray, List.getElem_cons_succ, List.getElem_cons_zero])
      refine wpAnyH_done (by kernel_rfl) ?_ _
      refine NoPanic.normal ?_
      go_wp2_with fail
      go_roundw
      case rel => exact ⟨j + 1, by omega, by go_num, HR.out.2.drew⟩
      case measure => simp [intOf]; omega
    · obtain rfl : j = l.length := by omega
      have rF := RF.out.run hbr
      obtain ⟨x1, x2, x3, x4, x5, x6⟩ := row_facts rF
      have HB := Lib.hid (below_run KB.out hbr)
      have HI := Lib.hid (KI.out.run hbr)
      have HVr := Lib.hid (KV.out.run hbr)
      have hf8 : u.found.length ≤ 8 := by rw [HFL.out]; omega
      clear rF hbr
      go_wp2_with fail
      refine (clone_ids _ u.found _ HI.out (by omega)).mono ?_
      rintro e w4 ⟨v4, rfl, ho4, hb4⟩
      have CS := Lib.hid (sort_own _ _ v4 u.found w4 ho4 (by omega))
      have HB4 := Lib.hid (below_run HB.out hb4)
      have HV4 := Lib.hid (HVr.out.run hb4)
      have hz4 := hb4.size
      have hvs : ∃ a n c, v4 = .slice a n c := by
        rcases ho4.2 with ⟨rfl, _⟩ | ⟨g, cap, cur, rfl, _⟩
        · exact ⟨_, _, _, rfl⟩
        · exact ⟨_, _, _, rfl⟩
      obtain ⟨xa, xn, xc, rfl⟩ := hvs
      have HB45 := Lib.hid hb4
      clear hb4 ho4 x1 x2 x3 x4 x5 x6
      go_wp2_with fail
      refine CS.out.mono ?_
      rintro e w5 ⟨rfl, hb5, -, m, ho5, hp5, hs5⟩
      have HM5 := Lib.hid (And.intro hp5 hs5)
      have hml : m.length ≤ 8 := by rw [hp5.length_eq]; exact hf8
      have hxn : xn = m.length := by
        have := ho5.1
        rcases ho5.2 with ⟨e, _⟩ | ⟨g, cap, cur, e, _⟩ <;> cases e <;> simp [u64L] at this ⊢ <;> omega
      subst hxn
      have HO5 := Lib.hid (own_ids ho5 rfl (by omega))
      have hb45 := HB45.out.trans hb5
      have HV5 := Lib.hid (HVr.out.run hb45)
      have HB5 := Lib.hid (below_run HB.out hb45)
      clear hp5 hs5 ho5 CS hb5 hb45
      go_wp2_with fail
      refine (lids_any _ l _ HV5.out (by omega)).mono ?_
      rintro e w6 ⟨v6, m6, rfl, hm6, hi6, hb6⟩
      have heq : m6 = m := ord_eq hm6 ⟨HM5.out.1, HM5.out.2⟩ HF.out.found.symm
      subst heq
      have HI6 := Lib.hid (And.intro (HO5.out.run hb6) hi6)
      have HB6 := Lib.hid (below_run HB5.out hb6)
      clear hm6 hi6 hb6
      go_wp2_with fail
      refine (equal_same _ _ m6 _ HI6.out.1 HI6.out.2).mono ?_
      rintro e w7 ⟨rfl, hb7⟩
      have HB7 := Lib.hid (below_run HB6.out hb7)
      clear hb7
      go_wp2_with fail
      refine (awake48_any _).mono ?_
      rintro e w8 ⟨rfl, hb8⟩
      go_wp2
      go_ret
      exact ⟨rfl, below_run HB7.out hb8⟩
end Go.Proofs.YtiemdccjphdbmaaGreat
