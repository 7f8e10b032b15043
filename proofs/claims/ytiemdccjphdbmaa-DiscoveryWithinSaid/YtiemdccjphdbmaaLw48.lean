/-
  The walk of the law DiscoveryWithin.
-/
import Derived.Test.YtiemdccjphdbmaaRg
import Derived.Test.YtiemdccjphdbmaaAk
import Derived.Test.YtiemdccjphdbmaaSk
import Derived.Deep.RegionHeld
import Derived.Deep.RegionHeld3
namespace Go.Proofs.Ytiemdccjphdbmaa
open Go.RowKit

theorem is_any48 (q : Bool) (n : Int) (h : isId n = q) (w : World) : Calls Try.prog 5 #[.int .u64 n] w fun e w' => e = .returned (.bool q) ∧ w = w' := by
  have := Is_any n w
  rw [h] at this
  exact this

set_option maxHeartbeats 8000000 in
set_option maxRecDepth 100000 in
theorem law_within (v : Value) (l : List Dev) (src seq low high : Int) (w : World) (hv : DevsAt w v l) (hr : l.length * 56 ≤ 140737488351232) :
    Calls Try.prog 3 #[v, .agg #[.int .u64 src, .int .i64 seq, .int .u64 low, .int .u64 high]] w fun e w' => e = .returned (.bool true) ∧ Below w.heap.size w w' := by
  obtain ⟨q1, h1⟩ : ∃ q, rightD l = q := ⟨_, rfl⟩
  have H1 := Lib.hid h1
  have HV := Lib.hid (hv.alloc (.cells #[.int .u64 src, .int .i64 seq, .int .u64 low, .int .u64 high] 25))
  have R0 := Lib.hid (RowAt.new w 25 #[.int .u64 src, .int .i64 seq, .int .u64 low, .int .u64 high])
  have HB0 := Lib.hid ((Below.refl w.heap.size w).alloc (Nat.le_refl _) (.cells #[.int .u64 src, .int .i64 seq, .int .u64 low, .int .u64 high] 25))
  clear hv h1
  go_enter Try.func3, Try.ntmps3
  go_wp2_with fail
  refine (lright_any q1 _ l _ HV.out hr H1.out).mono ?_
  rintro e w2 ⟨rfl, hb2⟩
  have HB2 := Lib.hid (below_run HB0.out hb2)
  have hm2 := R0.out.run hb2
  have HV2 := Lib.hid (HV.out.run hb2)
  obtain ⟨x1, x2, x3, x4, x5, x6⟩ := row_facts hm2
  have R2 := Lib.hid hm2
  clear hb2 hm2 R0 HB0 HV
  cases q1 with
  | false =>
    go_wp2_with fail
    refine (awake48_any _).mono ?_
    rintro e w9 ⟨rfl, hb9⟩
    go_wp2
    go_ret
    exact ⟨rfl, below_run HB2.out hb9⟩
  | true =>
  obtain ⟨q2, h2⟩ : ∃ q, isId src = q := ⟨_, rfl⟩
  have C2 := Lib.hid (is_any48 q2 src h2)
  have H2 := Lib.hid h2
  clear h2
  go_wp2_with fail
  refine (C2.out _).mono ?_
  rintro e w3 ⟨rfl, rfl⟩
  cases q2 with
  | false =>
    go_wp2_with fail
    refine (awake48_any _).mono ?_
    rintro e w9 ⟨rfl, hb9⟩
    go_wp2
    go_ret
    exact ⟨rfl, below_run HB2.out hb9⟩
  | true =>
  by_cases g0 : seq < 0
  · skip
    go_wp2_with fail
    refine (awake48_any _).mono ?_
    rintro e w9 ⟨rfl, hb9⟩
    go_wp2
    go_ret
    exact ⟨rfl, below_run HB2.out hb9⟩
  by_cases g1 : 255 < seq
  · skip
    go_wp2_with fail
    refine (awake48_any _).mono ?_
    rintro e w9 ⟨rfl, hb9⟩
    go_wp2
    go_ret
    exact ⟨rfl, below_run HB2.out hb9⟩
  obtain ⟨q3, h3⟩ : ∃ q, isId low = q := ⟨_, rfl⟩
  have C3 := Lib.hid (is_any48 q3 low h3)
  have H3 := Lib.hid h3
  clear h3
  go_wp2_with fail
  refine (C3.out _).mono ?_
  rintro e w3 ⟨rfl, rfl⟩
  cases q3 with
  | false =>
    go_wp2_with fail
    refine (awake48_any _).mono ?_
    rintro e w9 ⟨rfl, hb9⟩
    go_wp2
    go_ret
    exact ⟨rfl, below_run HB2.out hb9⟩
  | true =>
  obtain ⟨q4, h4⟩ : ∃ q, isId high = q := ⟨_, rfl⟩
  have C4 := Lib.hid (is_any48 q4 high h4)
  have H4 := Lib.hid h4
  clear h4
  go_wp2_with fail
  refine (C4.out _).mono ?_
  rintro e w3 ⟨rfl, rfl⟩
  cases q4 with
  | false =>
    go_wp2_with fail
    refine (awake48_any _).mono ?_
    rintro e w9 ⟨rfl, hb9⟩
    go_wp2
    go_ret
    exact ⟨rfl, below_run HB2.out hb9⟩
  | true =>
  by_cases g2 : high < low
  · skip
    go_wp2_with fail
    refine (awake48_any _).mono ?_
    rintro e w9 ⟨rfl, hb9⟩
    go_wp2
    go_ret
    exact ⟨rfl, below_run HB2.out hb9⟩
  obtain ⟨r1, r2, r3⟩ := rightD_spec H1.out
  obtain ⟨hE, xs, hW⟩ := within_all r3 H2.out (by omega) (by omega) H3.out H4.out (show low ≤ high by omega)
  have hcnt := within_count hW r3
  have CS0 := search_any v l src seq low high w2 HV2.out
  obtain ⟨u, hu⟩ : ∃ u, searchU l src seq low high = u := ⟨_, rfl⟩
  obtain ⟨N, hN⟩ : ∃ N, IntKind.i64.wrap (u.msgs : Int) = N := ⟨_, rfl⟩
  unfold FindPost at CS0
  rw [hE, hu, hN] at CS0
  rw [hu] at hW
  rw [hW.devs, hW.found] at CS0
  have CS := Lib.hid CS0
  have HW := Lib.hid hW
  have HCNT := Lib.hid hcnt
  clear CS0 hE hu hN hW hcnt r2 r3
  go_wp2_with fail
  refine CS.out.mono ?_
  rintro e w3 ⟨v3, vf3, rfl, hd3, hi3, hb3⟩
  obtain ⟨fa, fn, fc, rfl⟩ := slice_of hi3
  have hln3 : ∀ a m c, v3 = .slice a m c → m = l.length := by
    rintro a m c rfl
    have := mutL_length xs l
    rcases hd3 with ⟨h0, _, _, e⟩ | ⟨_, _, _, _, _, e, _⟩ <;> cases e <;> omega
  have hln : ∀ a m c, v = .slice a m c → m = l.length := by
    rintro a m c rfl
    rcases HV2.out with ⟨h0, _, _, e⟩ | ⟨_, _, _, _, _, e, _⟩ <;> cases e <;> omega
  have hlnf : fn = xs.length := by
    rcases hi3 with ⟨h0, _, _, e⟩ | ⟨_, _, _, _, _, e, _⟩ <;> cases e <;> omega
  subst hlnf
  obtain ⟨ya, yn, yc, rfl⟩ := slice_of hd3
  obtain rfl := hln3 _ _ _ rfl
  obtain ⟨sa, sk, sc, rfl⟩ := slice_of HV2.out
  obtain rfl := hln _ _ _ rfl
  have hm3 := R2.out.run hb3
  have hv3 := HV2.out.run hb3
  have hbw := below_run HB2.out hb3
  go_upto_region 4 with fail
  have hbb : Below w3.heap.size w3 (w3.alloc (.cells #[.slice fa xs.length fc, .int .i64 N] 31)) := (Below.refl _ _).alloc (Nat.le_refl _) _
  have rF : RowAt (w3.alloc (.cells #[.slice fa xs.length fc, .int .i64 N] 31)) w3.heap.size 31 #[.slice fa xs.length fc, .int .i64 N] := RowAt.new _ _ _
  have rS := hm3.run hbb
  have kV := hv3.run hbb
  have kD := hd3.run hbb
  have kI := hi3.run hbb
  have kB := below_run hbw hbb
  have hk1 := hbw.size
  have hk2 := lt_of_block hm3
  generalize (w3.alloc (.cells #[.slice fa xs.length fc, .int .i64 N] 31)) = x at rF rS kV kD kI kB ⊢
  generalize w3.heap.size = k1 at rF hk1 hk2 ⊢
  have RF := Lib.hid rF
  have RS := Lib.hid rS
  have KV := Lib.hid kV
  have KD := Lib.hid kD
  have KI := Lib.hid kI
  have KB := Lib.hid kB
  have hl8 : (l.length : Int) ≤ 8 := by omega
  clear rF rS kV kD kI kB hbb hm3 hv3 hd3 hi3 hb3 hbw x1 x2 x3 x4 x5 x6 R2 HV2 HB2 CS hln hln3 C2 C3 C4
  go_wp2_with fail
  go_loopw [8, 9, 10, 11, 12, 77] (fun cnt _ _ _ _ i wr => ∃ j : Nat, j ≤ l.length ∧ i = .int .i64 j ∧ cnt = .int .i64 ((l.take j).filter fun d => decide (d.id ∈ xs)).length ∧ Below x.heap.size x wr) (fun _ _ _ _ _ i _ => l.length - (intOf i).toNat)
  case atStart => exact ⟨0, Nat.zero_le _, rfl, rfl, Below.refl _ _⟩
  case round =>
    obtain ⟨j, hj, rfl, rfl, hbr⟩ := hrel
    by_cases hlt2 : j < l.length
    · have hlt3 : (j : Int) < (l.length : Int) := by omega
      have hj0 : (0 : Int) ≤ (j : Int) := by omega
      rcases KV.out.run hbr with ⟨h0, _⟩ | ⟨h0, h1, b, off, cap, hvv, hlt, hcel⟩
      · omega
      cases hvv
      obtain ⟨d, hd, e0, e1, e2, e3, e4, e5, e6⟩ := dev_cells hcel j hlt2
      have hms := mutL_length xs l
      rcases KD.out.run hbr with ⟨h0', _⟩ | ⟨h0', h1', b2, off2, cap2, hvv2, hltb, hcel2⟩
      · omega
      obtain ⟨rfl, -, rfl⟩ : ya = some ⟨b2, off2, none⟩ ∧ l.length = (mutL xs l).length ∧ yc = cap2 := by injection hvv2 with e1 e2 e3; exact ⟨e1, e2, e3⟩
      clear hvv2
      obtain ⟨d2, hd2, f0, f1, f2, f3, f4, f5, f6⟩ := dev_cells hcel2 j (by omega)
      rw [mutL_at hd] at hd2
      have hd2' : d2 = behind xs d := (Option.some.inj hd2).symm
      have hone := within_one HW.out (List.mem_of_getElem? hd)
      have HT := Lib.hid (take_succ_some hd)
      have hcc : ((l.take (j + 1)).filter fun d => decide (d.id ∈ xs)).length = ((l.take j).filter fun d => decide (d.id ∈ xs)).length + (if d.id ∈ xs then 1 else 0) := by
        rw [HT.out, count_snoc]
        simp
      have hcl : ((l.take j).filter fun d => decide (d.id ∈ xs)).length ≤ 8 := Nat.le_trans (List.length_filter_le _ _) (by simp; omega)
      obtain ⟨c, hc⟩ : ∃ c, ((l.take j).filter fun d => decide (d.id ∈ xs)).length = c := ⟨_, rfl⟩
      rw [hc] at hcc hcl ⊢
      have HCC := Lib.hid hcc
      rw [← hd2'] at hone
      have rS := RS.out.run hbr
      have rF := RF.out.run hbr
      have KIr := Lib.hid (KI.out.run hbr)
      have HBR := Lib.hid hbr
      have RSr := Lib.hid rS
      have RFr := Lib.hid rF
      obtain ⟨x1, x2, x3, x4, x5, x6⟩ := row_facts rS
      obtain ⟨y1, y2, y3, y4, y5, y6⟩ := row_facts rF
      have hlS := lt_of_block rS
      have hlF := lt_of_block rF
      have hrz := hbr.size
      have hcb : (c : Int) ≤ 8 := by omega
      have hc0 : (0 : Int) ≤ (c : Int) := by omega
      clear hcel hcel2 hms hd2 hd hcc hc hbr rS rF hd2'
      have HONE := Lib.hid hone
      clear hone
      go_upto_region 10 with fail
      have rD : RowAt (wr.alloc (.cells #[.int .u64 d.id, .int .i64 d.ft, .int .i64 d.ad, .string d.lb, .int .i64 d.hr, .bool d.mu, .bool d.idf] 36)) wr.heap.size 36 #[.int .u64 d.id, .int .i64 d.ft, .int .i64 d.ad, .string d.lb, .int .i64 d.hr, .bool d.mu, .bool d.idf] := RowAt.new _ _ _
      have R10 := Lib.hid rD
      have HB10 := Lib.hid ((HBR.out).alloc hrz (.cells #[.int .u64 d.id, .int .i64 d.ft, .int .i64 d.ad, .string d.lb, .int .i64 d.hr, .bool d.mu, .bool d.idf] 36))
      have S10 := Lib.hid (RSr.out.alloc (.cells #[.int .u64 d.id, .int .i64 d.ft, .int .i64 d.ad, .string d.lb, .int .i64 d.hr, .bool d.mu, .bool d.idf] 36))
      have F10 := Lib.hid (RFr.out.alloc (.cells #[.int .u64 d.id, .int .i64 d.ft, .int .i64 d.ad, .string d.lb, .int .i64 d.hr, .bool d.mu, .bool d.idf] 36))
      have I10 := Lib.hid (KIr.out.alloc (.cells #[.int .u64 d.id, .int .i64 d.ft, .int .i64 d.ad, .string d.lb, .int .i64 d.hr, .bool d.mu, .bool d.idf] 36))
      have G10 := Lib.hid (show ∀ o c, wr.cell? ⟨b2, o, none⟩ = c → (wr.alloc (.cells #[.int .u64 d.id, .int .i64 d.ft, .int .i64 d.ad, .string d.lb, .int .i64 d.hr, .bool d.mu, .bool d.idf] 36)).cell? ⟨b2, o, none⟩ = c from fun o c e => (((Below.refl wr.heap.size wr).alloc (Nat.le_refl _) _).cell (p := ⟨b2, o, none⟩) hltb).trans e)
      replace f0 := G10.out _ _ f0
      replace f1 := G10.out _ _ f1
      replace f2 := G10.out _ _ f2
      replace f3 := G10.out _ _ f3
      replace f4 := G10.out _ _ f4
      replace f5 := G10.out _ _ f5
      replace f6 := G10.out _ _ f6
      have hlt10 : b2 < (wr.alloc (.cells #[.int .u64 d.id, .int .i64 d.ft, .int .i64 d.ad, .string d.lb, .int .i64 d.hr, .bool d.mu, .bool d.idf] 36)).heap.size := by simp; omega
      generalize hgw : wr.alloc (.cells #[.int .u64 d.id, .int .i64 d.ft, .int .i64 d.ad, .string d.lb, .int .i64 d.hr, .bool d.mu, .bool d.idf] 36) = w10 at R10 HB10 S10 F10 I10 f0 f1 f2 f3 f4 f5 f6 hlt10 ⊢
      generalize wr.heap.size = g10 at R10 ⊢
      obtain ⟨x1, x2, x3, x4, x5, x6⟩ := row_facts S10.out
      obtain ⟨z1, z2, z3, z4, z5, z6⟩ := row_facts R10.out
      have hjm : (j : Int) < (l.length : Int) := hlt3
      clear rD y1 y2 y3 y4 y5 y6 e0 e1 e2 e3 e4 e5 e6 hlS hlF hgw
      rcases HONE.out with ⟨i1, i2, i3, i4⟩ | ⟨i1, i2, i3, i4, i5⟩ | ⟨i1, i3, i5⟩
      · have hcE : ((l.take (j + 1)).filter fun d => decide (d.id ∈ xs)).length = c + 1 := by rw [HCC.out, if_pos i3]
        have i4' : d2.mu = true := i4
        rw [i4'] at f5
        have CC := Lib.hid (contains_ids (.slice fa xs.length fc) xs d.id w10 I10.out)
        rw [decide_eq_true i3] at CC
        obtain ⟨y1, y2, y3, y4, y5, y6⟩ := row_facts F10.out
        go_wp2_with fail
        refine CC.out.mono ?_
        rintro e w11 ⟨rfl, hb11⟩
        have r11 := R10.out.run hb11
        have hb12 := below_run HB10.out hb11
        have R11 := Lib.hid r11
        replace f0 := (hb11.cell (p := ⟨b2, off2 + j * 7, none⟩) hlt10).trans f0
        replace f1 := (hb11.cell (p := ⟨b2, off2 + j * 7 + 1, none⟩) hlt10).trans f1
        replace f2 := (hb11.cell (p := ⟨b2, off2 + j * 7 + 2, none⟩) hlt10).trans f2
        replace f3 := (hb11.cell (p := ⟨b2, off2 + j * 7 + 3, none⟩) hlt10).trans f3
        replace f4 := (hb11.cell (p := ⟨b2, off2 + j * 7 + 4, none⟩) hlt10).trans f4
        replace f5 := (hb11.cell (p := ⟨b2, off2 + j * 7 + 5, none⟩) hlt10).trans f5
        replace f6 := (hb11.cell (p := ⟨b2, off2 + j * 7 + 6, none⟩) hlt10).trans f6
        clear x1 x2 x3 x4 x5 x6 y1 y2 y3 y4 y5 y6 z1 z2 z3 z4 z5 z6 hb11 CC
        obtain ⟨mu, hmu⟩ : ∃ m, d.mu = m := ⟨_, rfl⟩
        rw [hmu] at R11
        clear hmu i1 i2 i3 i4 i4'
        cases mu with
        | true =>
          go_wp2_with fail
          refine wp_region_noPanic ?_
          refine wp_region_held_drew (S := (fun w' => RowAt w' g10 36 #[.int .u64 d.id, .int .i64 d.ft, .int .i64 d.ad, .string d.lb, .int .i64 d.hr, .bool true, .bool d.idf] ∧ w'.cell? ⟨b2, off2 + j * 7, none⟩ = some (.int .u64 d2.id) ∧ w'.cell? ⟨b2, off2 + j * 7 + 1, none⟩ = some (.int .i64 d2.ft) ∧ w'.cell? ⟨b2, off2 + j * 7 + 2, none⟩ = some (.int .i64 d2.ad) ∧ w'.cell? ⟨b2, off2 + j * 7 + 3, none⟩ = some (.string d2.lb) ∧ w'.cell? ⟨b2, off2 + j * 7 + 4, none⟩ = some (.int .i64 d2.hr) ∧ w'.cell? ⟨b2, off2 + j * 7 + 5, none⟩ = some (.bool true) ∧ w'.cell? ⟨b2, off2 + j * 7 + 6, none⟩ = some (.bool d2.idf))) (by kernel_rfl) ?_ (fun hHeld => ?_)
          · exact ⟨R11.out.drew, f0, f1, f2, f3, f4, f5, f6⟩
          refine wpAnyH_take (i := 0) (oi := _) (v := ?_) rfl (by kernel_rfl) (by kernel_rfl) (by kernel_rfl) (fun _ _ _ h => h) (Or.inl ⟨by rfl, ?_⟩) (by assumption) ?_
          rotate_left
          · intro w' hSw
            (obtain ⟨r1, c0, c1, c2, c3, c4, c5, c6⟩ := hSw; obtain ⟨p1, p2, p3, p4, p5, p6⟩ := row_facts r1)
            go_simp
            (try with_reducible rfl)
          (try simp only [Act.put, List.setIfInBounds_toArray, List.set_cons_zero, List.set_cons_succ, List.getElem_toArray, List.getElem_cons_zero])
          refine wpAnyH_take (i := 1) (oi := _) (v := ?_) rfl (by kernel_rfl) (by kernel_rfl) (by kernel_rfl) (fun _ _ _ h => h) (Or.inl ⟨by rfl, ?_⟩) (by assumption) ?_
          rotate_left
          · intro w' hSw
            (obtain ⟨r1, c0, c1, c2, c3, c4, c5, c6⟩ := hSw; obtain ⟨p1, p2, p3, p4, p5, p6⟩ := row_facts r1)
            go_simp
            (try with_reducible rfl)
          (try simp only [Act.put, List.setIfInBounds_toArray, List.set_cons_zero, List.set_cons_succ, List.getElem_toArray, List.getElem_cons_succ, List.getElem_cons_zero])
          refine wpAnyH_take (i := 2) (oi := _) (v := ?_) rfl (by kernel_rfl) (by kernel_rfl) (by kernel_rfl) (fun _ _ _ h => h) (Or.inl ⟨by rfl, ?_⟩) (by assumption) ?_
          rotate_left
          · intro w' hSw
            (obtain ⟨r1, c0, c1, c2, c3, c4, c5, c6⟩ := hSw; obtain ⟨p1, p2, p3, p4, p5, p6⟩ := row_facts r1)
            go_simp
            (try with_reducible rfl)
          (try simp only [Act.put, List.setIfInBounds_toArray, List.set_cons_zero, List.set_cons_succ, List.getElem_toArray, List.getElem_cons_succ, List.getElem_cons_zero])
          refine wpAnyH_take (i := 3) (oi := _) (v := ?_) rfl (by kernel_rfl) (by kernel_rfl) (by kernel_rfl) (fun _ _ _ h => h) (Or.inl ⟨by rfl, ?_⟩) (by assumption) ?_
          rotate_left
          · intro w' hSw
            (obtain ⟨r1, c0, c1, c2, c3, c4, c5, c6⟩ := hSw; obtain ⟨p1, p2, p3, p4, p5, p6⟩ := row_facts r1)
            go_simp
            (try with_reducible rfl)
          (try simp only [Act.put, List.setIfInBounds_toArray, List.set_cons_zero, List.set_cons_succ, List.getElem_toArray, List.getElem_cons_succ, List.getElem_cons_zero])
          refine wpAnyH_take (i := 4) (oi := _) (v := ?_) rfl (by kernel_rfl) (by kernel_rfl) (by kernel_rfl) (fun _ _ _ h => h) (Or.inl ⟨by rfl, ?_⟩) (by assumption) ?_
          rotate_left
          · intro w' hSw
            (obtain ⟨r1, c0, c1, c2, c3, c4, c5, c6⟩ := hSw; obtain ⟨p1, p2, p3, p4, p5, p6⟩ := row_facts r1)
            go_simp
            (try with_reducible rfl)
          (try simp only [Act.put, List.setIfInBounds_toArray, List.set_cons_zero, List.set_cons_succ, List.getElem_toArray, List.getElem_cons_succ, List.getElem_cons_zero])
          refine wpAnyH_take (i := 5) (oi := _) (v := ?_) rfl (by kernel_rfl) (by kernel_rfl) (by kernel_rfl) (fun _ _ _ h => h) (Or.inl ⟨by rfl, ?_⟩) (by assumption) ?_
          rotate_left
          · intro w' hSw
            (obtain ⟨r1, c0, c1, c2, c3, c4, c5, c6⟩ := hSw; obtain ⟨p1, p2, p3, p4, p5, p6⟩ := row_facts r1)
            go_simp
            (try with_reducible rfl)
          (try simp only [Act.put, List.setIfInBounds_toArray, List.set_cons_zero, List.set_cons_succ, List.getElem_toArray, List.getElem_cons_succ, List.getElem_cons_zero])
          refine wpAnyH_take (i := 6) (oi := _) (v := ?_) rfl (by kernel_rfl) (by kernel_rfl) (by kernel_rfl) (fun _ _ _ h => h) (Or.inl ⟨by rfl, ?_⟩) (by assumption) ?_
          rotate_left
          · intro w' hSw
            (obtain ⟨r1, c0, c1, c2, c3, c4, c5, c6⟩ := hSw; obtain ⟨p1, p2, p3, p4, p5, p6⟩ := row_facts r1)
            go_simp
            (try with_reducible rfl)
          (try simp only [Act.put, List.setIfInBounds_toArray, List.set_cons_zero, List.set_cons_succ, List.getElem_toArray, List.getElem_cons_succ, List.getElem_cons_zero])
          refine wpAnyH_take (i := 7) (oi := _) (v := undef) rfl (by kernel_rfl) (by kernel_rfl) (by kernel_rfl) (fun _ _ _ h => h) (Or.inr ⟨by rfl, rfl⟩) (by assumption) ?_
          (try simp only [Act.put, List.setIfInBounds_toArray, List.set_cons_zero, List.set_cons_succ, List.getElem_toArray, List.getElem_cons_succ, List.getElem_cons_zero])
          refine wpAnyH_take (i := 8) (oi := _) (v := undef) rfl (by kernel_rfl) (by kernel_rfl) (by kernel_rfl) (fun _ _ _ h => h) (Or.inr ⟨by rfl, rfl⟩) (by assumption) ?_
          (try simp only [Act.put, List.setIfInBounds_toArray, List.set_cons_zero, List.set_cons_succ, List.getElem_toArray, List.getElem_cons_succ, List.getElem_cons_zero])
          refine wpAnyH_take (i := 9) (oi := _) (v := ?_) rfl (by kernel_rfl) (by kernel_rfl) (by kernel_rfl) (fun _ _ _ h => h) (Or.inl ⟨by rfl, ?_⟩) (by assumption) ?_
          rotate_left
          · intro w' hSw
            (obtain ⟨r1, c0, c1, c2, c3, c4, c5, c6⟩ := hSw; obtain ⟨p1, p2, p3, p4, p5, p6⟩ := row_facts r1)
            go_simp
            (try with_reducible rfl)
          (try simp only [Act.put, List.setIfInBounds_toArray, List.set_cons_zero, List.set_cons_succ, List.getElem_toArray, List.getElem_cons_succ, List.getElem_cons_zero])
          refine wpAnyH_take (i := 10) (oi := _) (v := ?_) rfl (by kernel_rfl) (by kernel_rfl) (by kernel_rfl) (fun _ _ _ h => h) (Or.inl ⟨by rfl, ?_⟩) (by assumption) ?_
          rotate_left
          · intro w' hSw
            (obtain ⟨r1, c0, c1, c2, c3, c4, c5, c6⟩ := hSw; obtain ⟨p1, p2, p3, p4, p5, p6⟩ := row_facts r1)
            go_simp
            (try with_reducible rfl)
          (try simp only [Act.put, List.setIfInBounds_toArray, List.set_cons_zero, List.set_cons_succ, List.getElem_toArray, List.getElem_cons_succ, List.getElem_cons_zero])
          refine wpAnyH_take (i := 11) (oi := _) (v := ?_) rfl (by kernel_rfl) (by kernel_rfl) (by kernel_rfl) (fun _ _ _ h => h) (Or.inl ⟨by rfl, ?_⟩) (by assumption) ?_
          rotate_left
          · intro w' hSw
            (obtain ⟨r1, c0, c1, c2, c3, c4, c5, c6⟩ := hSw; obtain ⟨p1, p2, p3, p4, p5, p6⟩ := row_facts r1)
            go_simp
            (try with_reducible rfl)
          (try simp only [Act.put, List.setIfInBounds_toArray, List.set_cons_zero, List.set_cons_succ, List.getElem_toArray, List.getElem_cons_succ, List.getElem_cons_zero])
          refine wpAnyH_take (i := 12) (oi := _) (v := ?_) rfl (by kernel_rfl) (by kernel_rfl) (by kernel_rfl) (fun _ _ _ h => h) (Or.inl ⟨by rfl, ?_⟩) (by assumption) ?_
          rotate_left
          · intro w' hSw
            (obtain ⟨r1, c0, c1, c2, c3, c4, c5, c6⟩ := hSw; obtain ⟨p1, p2, p3, p4, p5, p6⟩ := row_facts r1)
            go_simp
            (try with_reducible rfl)
          (try simp only [Act.put, List.setIfInBounds_toArray, List.set_cons_zero, List.set_cons_succ, List.getElem_toArray, List.getElem_cons_succ, List.getElem_cons_zero])
          refine wpAnyH_take (i := 13) (oi := _) (v := ?_) rfl (by kernel_rfl) (by kernel_rfl) (by kernel_rfl) (fun _ _ _ h => h) (Or.inl ⟨by rfl, ?_⟩) (by assumption) ?_
          rotate_left
          · intro w' hSw
            (obtain ⟨r1, c0, c1, c2, c3, c4, c5, c6⟩ := hSw; obtain ⟨p1, p2, p3, p4, p5, p6⟩ := row_facts r1)
            go_simp
            (try with_reducible rfl)
          (try simp only [Act.put, List.setIfInBounds_toArray, List.set_cons_zero, List.set_cons_succ, List.getElem_toArray, List.getElem_cons_succ, List.getElem_cons_zero])
          refine wpAnyH_take (i := 14) (oi := _) (v := ?_) rfl (by kernel_rfl) (by kernel_rfl) (by kernel_rfl) (fun _ _ _ h => h) (Or.inl ⟨by rfl, ?_⟩) (by assumption) ?_
          rotate_left
          · intro w' hSw
            (obtain ⟨r1, c0, c1, c2, c3, c4, c5, c6⟩ := hSw; obtain ⟨p1, p2, p3, p4, p5, p6⟩ := row_facts r1)
            go_simp
            (try with_reducible rfl)
          (try simp only [Act.put, List.setIfInBounds_toArray, List.set_cons_zero, List.set_cons_succ, List.getElem_toArray, List.getElem_cons_succ, List.getElem_cons_zero])
          refine wpAnyH_take (i := 15) (oi := _) (v := ?_) rfl (by kernel_rfl) (by kernel_rfl) (by kernel_rfl) (fun _ _ _ h => h) (Or.inl ⟨by rfl, ?_⟩) (by assumption) ?_
          rotate_left
          · intro w' hSw
            (obtain ⟨r1, c0, c1, c2, c3, c4, c5, c6⟩ := hSw; obtain ⟨p1, p2, p3, p4, p5, p6⟩ := row_facts r1)
            go_simp
            (try with_reducible rfl)
          (try simp only [Act.put, List.setIfInBounds_toArray, List.set_cons_zero, List.set_cons_succ, List.getElem_toArray, List.getElem_cons_succ, List.getElem_cons_zero])
          refine wpAnyH_take (i := 16) (oi := _) (v := ?_) rfl (by kernel_rfl) (by kernel_rfl) (by kernel_rfl) (fun _ _ _ h => h) (Or.inl ⟨by rfl, ?_⟩) (by assumption) ?_
          rotate_left
          · intro w' hSw
            (obtain ⟨r1, c0, c1, c2, c3, c4, c5, c6⟩ := hSw; obtain ⟨p1, p2, p3, p4, p5, p6⟩ := row_facts r1)
            go_simp
            (try with_reducible rfl)
          (try simp only [Act.put, List.setIfInBounds_toArray, List.set_cons_zero, List.set_cons_succ, List.getElem_toArray, List.getElem_cons_succ, List.getElem_cons_zero])
          refine wpAnyH_take (i := 17) (oi := _) (v := ?_) rfl (by kernel_rfl) (by kernel_rfl) (by kernel_rfl) (fun _ _ _ h => h) (Or.inl ⟨by rfl, ?_⟩) (by assumption) ?_
          rotate_left
          · intro w' hSw
            (obtain ⟨r1, c0, c1, c2, c3, c4, c5, c6⟩ := hSw; obtain ⟨p1, p2, p3, p4, p5, p6⟩ := row_facts r1)
            go_simp
            (try with_reducible rfl)
          (try simp only [Act.put, List.setIfInBounds_toArray, List.set_cons_zero, List.set_cons_succ, List.getElem_toArray, List.getElem_cons_succ, List.getElem_cons_zero])
          refine wpAnyH_take (i := 18) (oi := _) (v := ?_) rfl (by kernel_rfl) (by kernel_rfl) (by kernel_rfl) (fun _ _ _ h => h) (Or.inl ⟨by rfl, ?_⟩) (by assumption) ?_
          rotate_left
          · intro w' hSw
            (obtain ⟨r1, c0, c1, c2, c3, c4, c5, c6⟩ := hSw; obtain ⟨p1, p2, p3, p4, p5, p6⟩ := row_facts r1)
            go_simp
            (try with_reducible rfl)
          (try simp only [Act.put, List.setIfInBounds_toArray, List.set_cons_zero, List.set_cons_succ, List.getElem_toArray, List.getElem_cons_succ, List.getElem_cons_zero])
          refine wpAnyH_take (i := 19) (oi := _) (v := ?_) rfl (by kernel_rfl) (by kernel_rfl) (by kernel_rfl) (fun _ _ _ h => h) (Or.inl ⟨by rfl, ?_⟩) (by assumption) ?_
          rotate_left
          · intro w' hSw
            (obtain ⟨r1, c0, c1, c2, c3, c4, c5, c6⟩ := hSw; obtain ⟨p1, p2, p3, p4, p5, p6⟩ := row_facts r1)
            go_simp
            (try with_reducible rfl)
          (try simp only [Act.put, List.setIfInBounds_toArray, List.set_cons_zero, List.set_cons_succ, List.getElem_toArray, List.getElem_cons_succ, List.getElem_cons_zero])
          refine wpAnyH_take (i := 20) (oi := _) (v := ?_) rfl (by kernel_rfl) (by kernel_rfl) (by kernel_rfl) (fun _ _ _ h => h) (Or.inl ⟨by rfl, ?_⟩) (by assumption) ?_
          rotate_left
          · intro w' hSw
            (obtain ⟨r1, c0, c1, c2, c3, c4, c5, c6⟩ := hSw; obtain ⟨p1, p2, p3, p4, p5, p6⟩ := row_facts r1)
            go_simp
            (try with_reducible rfl)
          (try simp only [Act.put, List.setIfInBounds_toArray, List.set_cons_zero, List.set_cons_succ, List.getElem_toArray, List.getElem_cons_succ, List.getElem_cons_zero])
          refine wpAnyH_take (i := 21) (oi := _) (v := undef) rfl (by kernel_rfl) (by kernel_rfl) (by kernel_rfl) (fun _ _ _ h => h) (Or.inr ⟨by rfl, rfl⟩) (by assumption) ?_
          (try simp only [Act.put, List.setIfInBounds_toArray, List.set_cons_zero, List.set_cons_succ, List.getElem_toArray, List.getElem_cons_succ, List.getElem_cons_zero])
          refine wpAnyH_take (i := 22) (oi := _) (v := undef) rfl (by kernel_rfl) (by kernel_rfl) (by kernel_rfl) (fun _ _ _ h => h) (Or.inr ⟨by rfl, rfl⟩) (by assumption) ?_
          (try simp only [Act.put, List.setIfInBounds_toArray, List.set_cons_zero, List.set_cons_succ, List.getElem_toArray, List.getElem_cons_succ, List.getElem_cons_zero])
          refine wpAnyH_take (i := 23) (oi := _) (v := undef) rfl (by kernel_rfl) (by kernel_rfl) (by kernel_rfl) (fun _ _ _ h => h) (Or.inr ⟨by rfl, rfl⟩) (by assumption) ?_
          (try simp only [Act.put, List.setIfInBounds_toArray, List.set_cons_zero, List.set_cons_succ, List.getElem_toArray, List.getElem_cons_succ, List.getElem_cons_zero])
          refine wpAnyH_take (i := 24) (oi := _) (v := undef) rfl (by kernel_rfl) (by kernel_rfl) (by kernel_rfl) (fun _ _ _ h => h) (Or.inr ⟨by rfl, rfl⟩) (by assumption) ?_
          (try simp only [Act.put, List.setIfInBounds_toArray, List.set_cons_zero, List.set_cons_succ, List.getElem_toArray, List.getElem_cons_succ, List.getElem_cons_zero])
          refine wpAnyH_take (i := 25) (oi := _) (v := undef) rfl (by kernel_rfl) (by kernel_rfl) (by kernel_rfl) (fun _ _ _ h => h) (Or.inr ⟨by rfl, rfl⟩) (by assumption) ?_
          (try simp only [Act.put, List.setIfInBounds_toArray, List.set_cons_zero, List.set_cons_succ, List.getElem_toArray, List.getElem_cons_succ, List.getElem_cons_zero])
          refine wpAnyH_take (i := 26) (oi := _) (v := undef) rfl (by kernel_rfl) (by kernel_rfl) (by kernel_rfl) (fun _ _ _ h => h) (Or.inr ⟨by rfl, rfl⟩) (by assumption) ?_
          (try simp only [Act.put, List.setIfInBounds_toArray, List.set_cons_zero, List.set_cons_succ, List.getElem_toArray, List.getElem_cons_succ, List.getElem_cons_zero])
          refine wpAnyH_take (i := 27) (oi := _) (v := ?_) rfl (by kernel_rfl) (by kernel_rfl) (by kernel_rfl) (fun _ _ _ h => h) (Or.inl ⟨by rfl, ?_⟩) (by assumption) ?_
          rotate_left
          · intro w' hSw
            (obtain ⟨r1, c0, c1, c2, c3, c4, c5, c6⟩ := hSw; obtain ⟨p1, p2, p3, p4, p5, p6⟩ := row_facts r1)
            go_simp
            (try with_reducible rfl)
          (try simp only [Act.put, List.setIfInBounds_toArray, List.set_cons_zero, List.set_cons_succ, List.getElem_toArray, List.getElem_cons_succ, List.getElem_cons_zero])
          refine wpAnyH_take (i := 28) (oi := _) (v := ?_) rfl (by kernel_rfl) (by kernel_rfl) (by kernel_rfl) (fun _ _ _ h => h) (Or.inl ⟨by rfl, ?_⟩) (by assumption) ?_
          rotate_left
          · intro w' hSw
            (obtain ⟨r1, c0, c1, c2, c3, c4, c5, c6⟩ := hSw; obtain ⟨p1, p2, p3, p4, p5, p6⟩ := row_facts r1)
            go_simp
            (try with_reducible rfl)
          (try simp only [Act.put, List.setIfInBounds_toArray, List.set_cons_zero, List.set_cons_succ, List.getElem_toArray, List.getElem_cons_succ, List.getElem_cons_zero])
          refine wpAnyH_take (i := 29) (oi := _) (v := ?_) rfl (by kernel_rfl) (by kernel_rfl) (by kernel_rfl) (fun _ _ _ h => h) (Or.inl ⟨by rfl, ?_⟩) (by assumption) ?_
          rotate_left
          · intro w' hSw
            (obtain ⟨r1, c0, c1, c2, c3, c4, c5, c6⟩ := hSw; obtain ⟨p1, p2, p3, p4, p5, p6⟩ := row_facts r1)
            go_simp
            (try with_reducible rfl)
          (try simp only [Act.put, List.setIfInBounds_toArray, List.set_cons_zero, List.set_cons_succ, List.getElem_toArray, List.getElem_cons_succ, List.getElem_cons_zero])
          refine wpAnyH_take (i := 30) (oi := _) (v := ?_) rfl (by kernel_rfl) (by kernel_rfl) (by kernel_rfl) (fun _ _ _ h => h) (Or.inl ⟨by rfl, ?_⟩) (by assumption) ?_
          rotate_left
          · intro w' hSw
            (obtain ⟨r1, c0, c1, c2, c3, c4, c5, c6⟩ := hSw; obtain ⟨p1, p2, p3, p4, p5, p6⟩ := row_facts r1)
            go_simp
            (try with_reducible rfl)
          (try simp only [Act.put, List.setIfInBounds_toArray, List.set_cons_zero, List.set_cons_succ, List.getElem_toArray, List.getElem_cons_succ, List.getElem_cons_zero])
          refine wpAnyH_take (i := 31) (oi := _) (v := ?_) rfl (by kernel_rfl) (by kernel_rfl) (by kernel_rfl) (fun _ _ _ h => h) (Or.inl ⟨by rfl, ?_⟩) (by assumption) ?_
          rotate_left
          · intro w' hSw
            (obtain ⟨r1, c0, c1, c2, c3, c4, c5, c6⟩ := hSw; obtain ⟨p1, p2, p3, p4, p5, p6⟩ := row_facts r1)
            go_simp
            (try with_reducible rfl)
          (try simp only [Act.put, List.setIfInBounds_toArray, List.set_cons_zero, List.set_cons_succ, List.getElem_toArray, List.getElem_cons_succ, List.getElem_cons_zero])
          refine wpAnyH_take (i := 32) (oi := _) (v := ?_) rfl (by kernel_rfl) (by kernel_rfl) (by kernel_rfl) (fun _ _ _ h => h) (Or.inl ⟨by rfl, ?_⟩) (by assumption) ?_
          rotate_left
          · intro w' hSw
            (obtain ⟨r1, c0, c1, c2, c3, c4, c5, c6⟩ := hSw; obtain ⟨p1, p2, p3, p4, p5, p6⟩ := row_facts r1)
            go_simp
            (try with_reducible rfl)
          (try simp only [Act.put, List.setIfInBounds_toArray, List.set_cons_zero, List.set_cons_succ, List.getElem_toArray, List.getElem_cons_succ, List.getElem_cons_zero])
          refine wpAnyH_take (i := 33) (oi := _) (v := ?_) rfl (by kernel_rfl) (by kernel_rfl) (by kernel_rfl) (fun _ _ _ h => h) (Or.inl ⟨by rfl, ?_⟩) (by assumption) ?_
          rotate_left
          · intro w' hSw
            (obtain ⟨r1, c0, c1, c2, c3, c4, c5, c6⟩ := hSw; obtain ⟨p1, p2, p3, p4, p5, p6⟩ := row_facts r1)
            go_simp
            (try with_reducible rfl)
          (try simp only [Act.put, List.setIfInBounds_toArray, List.set_cons_zero, List.set_cons_succ, List.getElem_toArray, List.getElem_cons_succ, List.getElem_cons_zero])
          refine wpAnyH_take (i := 34) (oi := _) (v := ?_) rfl (by kernel_rfl) (by kernel_rfl) (by kernel_rfl) (fun _ _ _ h => h) (Or.inl ⟨by rfl, ?_⟩) (by assumption) ?_
          rotate_left
          · intro w' hSw
            (obtain ⟨r1, c0, c1, c2, c3, c4, c5, c6⟩ := hSw; obtain ⟨p1, p2, p3, p4, p5, p6⟩ := row_facts r1)
            go_simp
            (try with_reducible rfl)
          (try simp only [Act.put, List.setIfInBounds_toArray, List.set_cons_zero, List.set_cons_succ, List.getElem_toArray, List.getElem_cons_succ, List.getElem_cons_zero])
          refine wpAnyH_take (i := 35) (oi := _) (v := ?_) rfl (by kernel_rfl) (by kernel_rfl) (by kernel_rfl) (fun _ _ _ h => h) (Or.inl ⟨by rfl, ?_⟩) (by assumption) ?_
          rotate_left
          · intro w' hSw
            (obtain ⟨r1, c0, c1, c2, c3, c4, c5, c6⟩ := hSw; obtain ⟨p1, p2, p3, p4, p5, p6⟩ := row_facts r1)
            go_simp
            (try with_reducible rfl)
          (try simp only [Act.put, List.setIfInBounds_toArray, List.set_cons_zero, List.set_cons_succ, List.getElem_toArray, List.getElem_cons_succ, List.getElem_cons_zero])
          refine wpAnyH_take (i := 36) (oi := _) (v := ?_) rfl (by kernel_rfl) (by kernel_rfl) (by kernel_rfl) (fun _ _ _ h => h) (Or.inl ⟨by rfl, ?_⟩) (by assumption) ?_
          rotate_left
          · intro w' hSw
            (obtain ⟨r1, c0, c1, c2, c3, c4, c5, c6⟩ := hSw; obtain ⟨p1, p2, p3, p4, p5, p6⟩ := row_facts r1)
            go_simp
            (try with_reducible rfl)
          (try simp only [Act.put, List.setIfInBounds_toArray, List.set_cons_zero, List.set_cons_succ, List.getElem_toArray, List.getElem_cons_succ, List.getElem_cons_zero])
          refine wpAnyH_take (i := 37) (oi := _) (v := ?_) rfl (by kernel_rfl) (by kernel_rfl) (by kernel_rfl) (fun _ _ _ h => h) (Or.inl ⟨by rfl, ?_⟩) (by assumption) ?_
          rotate_left
          · intro w' hSw
            (obtain ⟨r1, c0, c1, c2, c3, c4, c5, c6⟩ := hSw; obtain ⟨p1, p2, p3, p4, p5, p6⟩ := row_facts r1)
            go_simp
            (try with_reducible rfl)
          (try simp only [Act.put, List.setIfInBounds_toArray, List.set_cons_zero, List.set_cons_succ, List.getElem_toArray, List.getElem_cons_succ, List.getElem_cons_zero])
          refine wpAnyH_take (i := 38) (oi := _) (v := ?_) rfl (by kernel_rfl) (by kernel_rfl) (by kernel_rfl) (fun _ _ _ h => h) (Or.inl ⟨by rfl, ?_⟩) (by assumption) ?_
          rotate_left
          · intro w' hSw
            (obtain ⟨r1, c0, c1, c2, c3, c4, c5, c6⟩ := hSw; obtain ⟨p1, p2, p3, p4, p5, p6⟩ := row_facts r1)
            go_simp
            (try with_reducible rfl)
          (try simp only [Act.put, List.setIfInBounds_toArray, List.set_cons_zero, List.set_cons_succ, List.getElem_toArray, List.getElem_cons_succ, List.getElem_cons_zero])
          refine wpAnyH_take (i := 39) (oi := _) (v := ?_) rfl (by kernel_rfl) (by kernel_rfl) (by kernel_rfl) (fun _ _ _ h => h) (Or.inl ⟨by rfl, ?_⟩) (by assumption) ?_
          rotate_left
          · intro w' hSw
            (obtain ⟨r1, c0, c1, c2, c3, c4, c5, c6⟩ := hSw; obtain ⟨p1, p2, p3, p4, p5, p6⟩ := row_facts r1)
            go_simp
            (try with_reducible rfl)
          (try simp only [Act.put, List.setIfInBounds_toArray, List.set_cons_zero, List.set_cons_succ, List.getElem_toArray, List.getElem_cons_succ, List.getElem_cons_zero])
          refine wpAnyH_done (by kernel_rfl) ?_ _
          refine NoPanic.normal ?_
          go_wp2_with fail
          go_roundw
          case rel => exact ⟨j + 1, by omega, by go_num, by first | (rw [hcE]; done) | (rw [hcE]; go_num), hb12.drew⟩
          case measure => simp [intOf]; omega
        | false =>
          go_wp2_with fail
          refine wp_region_noPanic ?_
          refine wp_region_held_drew (S := (fun w' => RowAt w' g10 36 #[.int .u64 d.id, .int .i64 d.ft, .int .i64 d.ad, .string d.lb, .int .i64 d.hr, .bool false, .bool d.idf] ∧ w'.cell? ⟨b2, off2 + j * 7, none⟩ = some (.int .u64 d2.id) ∧ w'.cell? ⟨b2, off2 + j * 7 + 1, none⟩ = some (.int .i64 d2.ft) ∧ w'.cell? ⟨b2, off2 + j * 7 + 2, none⟩ = some (.int .i64 d2.ad) ∧ w'.cell? ⟨b2, off2 + j * 7 + 3, none⟩ = some (.string d2.lb) ∧ w'.cell? ⟨b2, off2 + j * 7 + 4, none⟩ = some (.int .i64 d2.hr) ∧ w'.cell? ⟨b2, off2 + j * 7 + 5, none⟩ = some (.bool true) ∧ w'.cell? ⟨b2, off2 + j * 7 + 6, none⟩ = some (.bool d2.idf))) (by kernel_rfl) ?_ (fun hHeld => ?_)
          · exact ⟨R11.out.drew, f0, f1, f2, f3, f4, f5, f6⟩
          refine wpAnyH_take (i := 0) (oi := _) (v := ?_) rfl (by kernel_rfl) (by kernel_rfl) (by kernel_rfl) (fun _ _ _ h => h) (Or.inl ⟨by rfl, ?_⟩) (by assumption) ?_
          rotate_left
          · intro w' hSw
            (obtain ⟨r1, c0, c1, c2, c3, c4, c5, c6⟩ := hSw; obtain ⟨p1, p2, p3, p4, p5, p6⟩ := row_facts r1)
            go_simp
            (try with_reducible rfl)
          (try simp only [Act.put, List.setIfInBounds_toArray, List.set_cons_zero, List.set_cons_succ, List.getElem_toArray, List.getElem_cons_zero])
          refine wpAnyH_take (i := 1) (oi := _) (v := ?_) rfl (by kernel_rfl) (by kernel_rfl) (by kernel_rfl) (fun _ _ _ h => h) (Or.inl ⟨by rfl, ?_⟩) (by assumption) ?_
          rotate_left
          · intro w' hSw
            (obtain ⟨r1, c0, c1, c2, c3, c4, c5, c6⟩ := hSw; obtain ⟨p1, p2, p3, p4, p5, p6⟩ := row_facts r1)
            go_simp
            (try with_reducible rfl)
          (try simp only [Act.put, List.setIfInBounds_toArray, List.set_cons_zero, List.set_cons_succ, List.getElem_toArray, List.getElem_cons_succ, List.getElem_cons_zero])
          refine wpAnyH_take (i := 2) (oi := _) (v := ?_) rfl (by kernel_rfl) (by kernel_rfl) (by kernel_rfl) (fun _ _ _ h => h) (Or.inl ⟨by rfl, ?_⟩) (by assumption) ?_
          rotate_left
          · intro w' hSw
            (obtain ⟨r1, c0, c1, c2, c3, c4, c5, c6⟩ := hSw; obtain ⟨p1, p2, p3, p4, p5, p6⟩ := row_facts r1)
            go_simp
            (try with_reducible rfl)
          (try simp only [Act.put, List.setIfInBounds_toArray, List.set_cons_zero, List.set_cons_succ, List.getElem_toArray, List.getElem_cons_succ, List.getElem_cons_zero])
          refine wpAnyH_take (i := 3) (oi := _) (v := ?_) rfl (by kernel_rfl) (by kernel_rfl) (by kernel_rfl) (fun _ _ _ h => h) (Or.inl ⟨by rfl, ?_⟩) (by assumption) ?_
          rotate_left
          · intro w' hSw
            (obtain ⟨r1, c0, c1, c2, c3, c4, c5, c6⟩ := hSw; obtain ⟨p1, p2, p3, p4, p5, p6⟩ := row_facts r1)
            go_simp
            (try with_reducible rfl)
          (try simp only [Act.put, List.setIfInBounds_toArray, List.set_cons_zero, List.set_cons_succ, List.getElem_toArray, List.getElem_cons_succ, List.getElem_cons_zero])
          refine wpAnyH_take (i := 4) (oi := _) (v := ?_) rfl (by kernel_rfl) (by kernel_rfl) (by kernel_rfl) (fun _ _ _ h => h) (Or.inl ⟨by rfl, ?_⟩) (by assumption) ?_
          rotate_left
          · intro w' hSw
            (obtain ⟨r1, c0, c1, c2, c3, c4, c5, c6⟩ := hSw; obtain ⟨p1, p2, p3, p4, p5, p6⟩ := row_facts r1)
            go_simp
            (try with_reducible rfl)
          (try simp only [Act.put, List.setIfInBounds_toArray, List.set_cons_zero, List.set_cons_succ, List.getElem_toArray, List.getElem_cons_succ, List.getElem_cons_zero])
          refine wpAnyH_take (i := 5) (oi := _) (v := ?_) rfl (by kernel_rfl) (by kernel_rfl) (by kernel_rfl) (fun _ _ _ h => h) (Or.inl ⟨by rfl, ?_⟩) (by assumption) ?_
          rotate_left
          · intro w' hSw
            (obtain ⟨r1, c0, c1, c2, c3, c4, c5, c6⟩ := hSw; obtain ⟨p1, p2, p3, p4, p5, p6⟩ := row_facts r1)
            go_simp
            (try with_reducible rfl)
          (try simp only [Act.put, List.setIfInBounds_toArray, List.set_cons_zero, List.set_cons_succ, List.getElem_toArray, List.getElem_cons_succ, List.getElem_cons_zero])
          refine wpAnyH_take (i := 6) (oi := _) (v := ?_) rfl (by kernel_rfl) (by kernel_rfl) (by kernel_rfl) (fun _ _ _ h => h) (Or.inl ⟨by rfl, ?_⟩) (by assumption) ?_
          rotate_left
          · intro w' hSw
            (obtain ⟨r1, c0, c1, c2, c3, c4, c5, c6⟩ := hSw; obtain ⟨p1, p2, p3, p4, p5, p6⟩ := row_facts r1)
            go_simp
            (try with_reducible rfl)
          (try simp only [Act.put, List.setIfInBounds_toArray, List.set_cons_zero, List.set_cons_succ, List.getElem_toArray, List.getElem_cons_succ, List.getElem_cons_zero])
          refine wpAnyH_take (i := 7) (oi := _) (v := ?_) rfl (by kernel_rfl) (by kernel_rfl) (by kernel_rfl) (fun _ _ _ h => h) (Or.inl ⟨by rfl, ?_⟩) (by assumption) ?_
          rotate_left
          · intro w' hSw
            (obtain ⟨r1, c0, c1, c2, c3, c4, c5, c6⟩ := hSw; obtain ⟨p1, p2, p3, p4, p5, p6⟩ := row_facts r1)
            go_simp
            (try with_reducible rfl)
          (try simp only [Act.put, List.setIfInBounds_toArray, List.set_cons_zero, List.set_cons_succ, List.getElem_toArray, List.getElem_cons_succ, List.getElem_cons_zero])
          refine wpAnyH_take (i := 8) (oi := _) (v := ?_) rfl (by kernel_rfl) (by kernel_rfl) (by kernel_rfl) (fun _ _ _ h => h) (Or.inl ⟨by rfl, ?_⟩) (by assumption) ?_
          rotate_left
          · intro w' hSw
            (obtain ⟨r1, c0, c1, c2, c3, c4, c5, c6⟩ := hSw; obtain ⟨p1, p2, p3, p4, p5, p6⟩ := row_facts r1)
            go_simp
            (try with_reducible rfl)
          (try simp only [Act.put, List.setIfInBounds_toArray, List.set_cons_zero, List.set_cons_succ, List.getElem_toArray, List.getElem_cons_succ, List.getElem_cons_zero])
          refine wpAnyH_take (i := 9) (oi := _) (v := ?_) rfl (by kernel_rfl) (by kernel_rfl) (by kernel_rfl) (fun _ _ _ h => h) (Or.inl ⟨by rfl, ?_⟩) (by assumption) ?_
          rotate_left
          · intro w' hSw
            (obtain ⟨r1, c0, c1, c2, c3, c4, c5, c6⟩ := hSw; obtain ⟨p1, p2, p3, p4, p5, p6⟩ := row_facts r1)
            go_simp
            (try with_reducible rfl)
          (try simp only [Act.put, List.setIfInBounds_toArray, List.set_cons_zero, List.set_cons_succ, List.getElem_toArray, List.getElem_cons_succ, List.getElem_cons_zero])
          refine wpAnyH_take (i := 10) (oi := _) (v := ?_) rfl (by kernel_rfl) (by kernel_rfl) (by kernel_rfl) (fun _ _ _ h => h) (Or.inl ⟨by rfl, ?_⟩) (by assumption) ?_
          rotate_left
          · intro w' hSw
            (obtain ⟨r1, c0, c1, c2, c3, c4, c5, c6⟩ := hSw; obtain ⟨p1, p2, p3, p4, p5, p6⟩ := row_facts r1)
            go_simp
            (try with_reducible rfl)
          (try simp only [Act.put, List.setIfInBounds_toArray, List.set_cons_zero, List.set_cons_succ, List.getElem_toArray, List.getElem_cons_succ, List.getElem_cons_zero])
          refine wpAnyH_take (i := 11) (oi := _) (v := ?_) rfl (by kernel_rfl) (by kernel_rfl) (by kernel_rfl) (fun _ _ _ h => h) (Or.inl ⟨by rfl, ?_⟩) (by assumption) ?_
          rotate_left
          · intro w' hSw
            (obtain ⟨r1, c0, c1, c2, c3, c4, c5, c6⟩ := hSw; obtain ⟨p1, p2, p3, p4, p5, p6⟩ := row_facts r1)
            go_simp
            (try with_reducible rfl)
          (try simp only [Act.put, List.setIfInBounds_toArray, List.set_cons_zero, List.set_cons_succ, List.getElem_toArray, List.getElem_cons_succ, List.getElem_cons_zero])
          refine wpAnyH_take (i := 12) (oi := _) (v := ?_) rfl (by kernel_rfl) (by kernel_rfl) (by kernel_rfl) (fun _ _ _ h => h) (Or.inl ⟨by rfl, ?_⟩) (by assumption) ?_
          rotate_left
          · intro w' hSw
            (obtain ⟨r1, c0, c1, c2, c3, c4, c5, c6⟩ := hSw; obtain ⟨p1, p2, p3, p4, p5, p6⟩ := row_facts r1)
            go_simp
            (try with_reducible rfl)
          (try simp only [Act.put, List.setIfInBounds_toArray, List.set_cons_zero, List.set_cons_succ, List.getElem_toArray, List.getElem_cons_succ, List.getElem_cons_zero])
          refine wpAnyH_take (i := 13) (oi := _) (v := ?_) rfl (by kernel_rfl) (by kernel_rfl) (by kernel_rfl) (fun _ _ _ h => h) (Or.inl ⟨by rfl, ?_⟩) (by assumption) ?_
          rotate_left
          · intro w' hSw
            (obtain ⟨r1, c0, c1, c2, c3, c4, c5, c6⟩ := hSw; obtain ⟨p1, p2, p3, p4, p5, p6⟩ := row_facts r1)
            go_simp
            (try with_reducible rfl)
          (try simp only [Act.put, List.setIfInBounds_toArray, List.set_cons_zero, List.set_cons_succ, List.getElem_toArray, List.getElem_cons_succ, List.getElem_cons_zero])
          refine wpAnyH_take (i := 14) (oi := _) (v := ?_) rfl (by kernel_rfl) (by kernel_rfl) (by kernel_rfl) (fun _ _ _ h => h) (Or.inl ⟨by rfl, ?_⟩) (by assumption) ?_
          rotate_left
          · intro w' hSw
            (obtain ⟨r1, c0, c1, c2, c3, c4, c5, c6⟩ := hSw; obtain ⟨p1, p2, p3, p4, p5, p6⟩ := row_facts r1)
            go_simp
            (try with_reducible rfl)
          (try simp only [Act.put, List.setIfInBounds_toArray, List.set_cons_zero, List.set_cons_succ, List.getElem_toArray, List.getElem_cons_succ, List.getElem_cons_zero])
          refine wpAnyH_take (i := 15) (oi := _) (v := ?_) rfl (by kernel_rfl) (by kernel_rfl) (by kernel_rfl) (fun _ _ _ h => h) (Or.inl ⟨by rfl, ?_⟩) (by assumption) ?_
          rotate_left
          · intro w' hSw
            (obtain ⟨r1, c0, c1, c2, c3, c4, c5, c6⟩ := hSw; obtain ⟨p1, p2, p3, p4, p5, p6⟩ := row_facts r1)
            go_simp
            (try with_reducible rfl)
          (try simp only [Act.put, List.setIfInBounds_toArray, List.set_cons_zero, List.set_cons_succ, List.getElem_toArray, List.getElem_cons_succ, List.getElem_cons_zero])
          refine wpAnyH_take (i := 16) (oi := _) (v := ?_) rfl (by kernel_rfl) (by kernel_rfl) (by kernel_rfl) (fun _ _ _ h => h) (Or.inl ⟨by rfl, ?_⟩) (by assumption) ?_
          rotate_left
          · intro w' hSw
            (obtain ⟨r1, c0, c1, c2, c3, c4, c5, c6⟩ := hSw; obtain ⟨p1, p2, p3, p4, p5, p6⟩ := row_facts r1)
            go_simp
            (try with_reducible rfl)
          (try simp only [Act.put, List.setIfInBounds_toArray, List.set_cons_zero, List.set_cons_succ, List.getElem_toArray, List.getElem_cons_succ, List.getElem_cons_zero])
          refine wpAnyH_take (i := 17) (oi := _) (v := ?_) rfl (by kernel_rfl) (by kernel_rfl) (by kernel_rfl) (fun _ _ _ h => h) (Or.inl ⟨by rfl, ?_⟩) (by assumption) ?_
          rotate_left
          · intro w' hSw
            (obtain ⟨r1, c0, c1, c2, c3, c4, c5, c6⟩ := hSw; obtain ⟨p1, p2, p3, p4, p5, p6⟩ := row_facts r1)
            go_simp
            (try with_reducible rfl)
          (try simp only [Act.put, List.setIfInBounds_toArray, List.set_cons_zero, List.set_cons_succ, List.getElem_toArray, List.getElem_cons_succ, List.getElem_cons_zero])
          refine wpAnyH_take (i := 18) (oi := _) (v := ?_) rfl (by kernel_rfl) (by kernel_rfl) (by kernel_rfl) (fun _ _ _ h => h) (Or.inl ⟨by rfl, ?_⟩) (by assumption) ?_
          rotate_left
          · intro w' hSw
            (obtain ⟨r1, c0, c1, c2, c3, c4, c5, c6⟩ := hSw; obtain ⟨p1, p2, p3, p4, p5, p6⟩ := row_facts r1)
            go_simp
            (try with_reducible rfl)
          (try simp only [Act.put, List.setIfInBounds_toArray, List.set_cons_zero, List.set_cons_succ, List.getElem_toArray, List.getElem_cons_succ, List.getElem_cons_zero])
          refine wpAnyH_take (i := 19) (oi := _) (v := ?_) rfl (by kernel_rfl) (by kernel_rfl) (by kernel_rfl) (fun _ _ _ h => h) (Or.inl ⟨by rfl, ?_⟩) (by assumption) ?_
          rotate_left
          · intro w' hSw
            (obtain ⟨r1, c0, c1, c2, c3, c4, c5, c6⟩ := hSw; obtain ⟨p1, p2, p3, p4, p5, p6⟩ := row_facts r1)
            go_simp
            (try with_reducible rfl)
          (try simp only [Act.put, List.setIfInBounds_toArray, List.set_cons_zero, List.set_cons_succ, List.getElem_toArray, List.getElem_cons_succ, List.getElem_cons_zero])
          refine wpAnyH_take (i := 20) (oi := _) (v := ?_) rfl (by kernel_rfl) (by kernel_rfl) (by kernel_rfl) (fun _ _ _ h => h) (Or.inl ⟨by rfl, ?_⟩) (by assumption) ?_
          rotate_left
          · intro w' hSw
            (obtain ⟨r1, c0, c1, c2, c3, c4, c5, c6⟩ := hSw; obtain ⟨p1, p2, p3, p4, p5, p6⟩ := row_facts r1)
            go_simp
            (try with_reducible rfl)
          (try simp only [Act.put, List.setIfInBounds_toArray, List.set_cons_zero, List.set_cons_succ, List.getElem_toArray, List.getElem_cons_succ, List.getElem_cons_zero])
          refine wpAnyH_take (i := 21) (oi := _) (v := undef) rfl (by kernel_rfl) (by kernel_rfl) (by kernel_rfl) (fun _ _ _ h => h) (Or.inr ⟨by rfl, rfl⟩) (by assumption) ?_
          (try simp only [Act.put, List.setIfInBounds_toArray, List.set_cons_zero, List.set_cons_succ, List.getElem_toArray, List.getElem_cons_succ, List.getElem_cons_zero])
          refine wpAnyH_take (i := 22) (oi := _) (v := undef) rfl (by kernel_rfl) (by kernel_rfl) (by kernel_rfl) (fun _ _ _ h => h) (Or.inr ⟨by rfl, rfl⟩) (by assumption) ?_
          (try simp only [Act.put, List.setIfInBounds_toArray, List.set_cons_zero, List.set_cons_succ, List.getElem_toArray, List.getElem_cons_succ, List.getElem_cons_zero])
          refine wpAnyH_take (i := 23) (oi := _) (v := undef) rfl (by kernel_rfl) (by kernel_rfl) (by kernel_rfl) (fun _ _ _ h => h) (Or.inr ⟨by rfl, rfl⟩) (by assumption) ?_
          (try simp only [Act.put, List.setIfInBounds_toArray, List.set_cons_zero, List.set_cons_succ, List.getElem_toArray, List.getElem_cons_succ, List.getElem_cons_zero])
          refine wpAnyH_take (i := 24) (oi := _) (v := undef) rfl (by kernel_rfl) (by kernel_rfl) (by kernel_rfl) (fun _ _ _ h => h) (Or.inr ⟨by rfl, rfl⟩) (by assumption) ?_
          (try simp only [Act.put, List.setIfInBounds_toArray, List.set_cons_zero, List.set_cons_succ, List.getElem_toArray, List.getElem_cons_succ, List.getElem_cons_zero])
          refine wpAnyH_take (i := 25) (oi := _) (v := undef) rfl (by kernel_rfl) (by kernel_rfl) (by kernel_rfl) (fun _ _ _ h => h) (Or.inr ⟨by rfl, rfl⟩) (by assumption) ?_
          (try simp only [Act.put, List.setIfInBounds_toArray, List.set_cons_zero, List.set_cons_succ, List.getElem_toArray, List.getElem_cons_succ, List.getElem_cons_zero])
          refine wpAnyH_take (i := 26) (oi := _) (v := undef) rfl (by kernel_rfl) (by kernel_rfl) (by kernel_rfl) (fun _ _ _ h => h) (Or.inr ⟨by rfl, rfl⟩) (by assumption) ?_
          (try simp only [Act.put, List.setIfInBounds_toArray, List.set_cons_zero, List.set_cons_succ, List.getElem_toArray, List.getElem_cons_succ, List.getElem_cons_zero])
          refine wpAnyH_take (i := 27) (oi := _) (v := ?_) rfl (by kernel_rfl) (by kernel_rfl) (by kernel_rfl) (fun _ _ _ h => h) (Or.inl ⟨by rfl, ?_⟩) (by assumption) ?_
          rotate_left
          · intro w' hSw
            (obtain ⟨r1, c0, c1, c2, c3, c4, c5, c6⟩ := hSw; obtain ⟨p1, p2, p3, p4, p5, p6⟩ := row_facts r1)
            go_simp
            (try with_reducible rfl)
          (try simp only [Act.put, List.setIfInBounds_toArray, List.set_cons_zero, List.set_cons_succ, List.getElem_toArray, List.getElem_cons_succ, List.getElem_cons_zero])
          refine wpAnyH_take (i := 28) (oi := _) (v := ?_) rfl (by kernel_rfl) (by kernel_rfl) (by kernel_rfl) (fun _ _ _ h => h) (Or.inl ⟨by rfl, ?_⟩) (by assumption) ?_
          rotate_left
          · intro w' hSw
            (obtain ⟨r1, c0, c1, c2, c3, c4, c5, c6⟩ := hSw; obtain ⟨p1, p2, p3, p4, p5, p6⟩ := row_facts r1)
            go_simp
            (try with_reducible rfl)
          (try simp only [Act.put, List.setIfInBounds_toArray, List.set_cons_zero, List.set_cons_succ, List.getElem_toArray, List.getElem_cons_succ, List.getElem_cons_zero])
          refine wpAnyH_take (i := 29) (oi := _) (v := ?_) rfl (by kernel_rfl) (by kernel_rfl) (by kernel_rfl) (fun _ _ _ h => h) (Or.inl ⟨by rfl, ?_⟩) (by assumption) ?_
          rotate_left
          · intro w' hSw
            (obtain ⟨r1, c0, c1, c2, c3, c4, c5, c6⟩ := hSw; obtain ⟨p1, p2, p3, p4, p5, p6⟩ := row_facts r1)
            go_simp
            (try with_reducible rfl)
          (try simp only [Act.put, List.setIfInBounds_toArray, List.set_cons_zero, List.set_cons_succ, List.getElem_toArray, List.getElem_cons_succ, List.getElem_cons_zero])
          refine wpAnyH_take (i := 30) (oi := _) (v := ?_) rfl (by kernel_rfl) (by kernel_rfl) (by kernel_rfl) (fun _ _ _ h => h) (Or.inl ⟨by rfl, ?_⟩) (by assumption) ?_
          rotate_left
          · intro w' hSw
            (obtain ⟨r1, c0, c1, c2, c3, c4, c5, c6⟩ := hSw; obtain ⟨p1, p2, p3, p4, p5, p6⟩ := row_facts r1)
            go_simp
            (try with_reducible rfl)
          (try simp only [Act.put, List.setIfInBounds_toArray, List.set_cons_zero, List.set_cons_succ, List.getElem_toArray, List.getElem_cons_succ, List.getElem_cons_zero])
          refine wpAnyH_take (i := 31) (oi := _) (v := ?_) rfl (by kernel_rfl) (by kernel_rfl) (by kernel_rfl) (fun _ _ _ h => h) (Or.inl ⟨by rfl, ?_⟩) (by assumption) ?_
          rotate_left
          · intro w' hSw
            (obtain ⟨r1, c0, c1, c2, c3, c4, c5, c6⟩ := hSw; obtain ⟨p1, p2, p3, p4, p5, p6⟩ := row_facts r1)
            go_simp
            (try with_reducible rfl)
          (try simp only [Act.put, List.setIfInBounds_toArray, List.set_cons_zero, List.set_cons_succ, List.getElem_toArray, List.getElem_cons_succ, List.getElem_cons_zero])
          refine wpAnyH_take (i := 32) (oi := _) (v := ?_) rfl (by kernel_rfl) (by kernel_rfl) (by kernel_rfl) (fun _ _ _ h => h) (Or.inl ⟨by rfl, ?_⟩) (by assumption) ?_
          rotate_left
          · intro w' hSw
            (obtain ⟨r1, c0, c1, c2, c3, c4, c5, c6⟩ := hSw; obtain ⟨p1, p2, p3, p4, p5, p6⟩ := row_facts r1)
            go_simp
            (try with_reducible rfl)
          (try simp only [Act.put, List.setIfInBounds_toArray, List.set_cons_zero, List.set_cons_succ, List.getElem_toArray, List.getElem_cons_succ, List.getElem_cons_zero])
          refine wpAnyH_take (i := 33) (oi := _) (v := ?_) rfl (by kernel_rfl) (by kernel_rfl) (by kernel_rfl) (fun _ _ _ h => h) (Or.inl ⟨by rfl, ?_⟩) (by assumption) ?_
          rotate_left
          · intro w' hSw
            (obtain ⟨r1, c0, c1, c2, c3, c4, c5, c6⟩ := hSw; obtain ⟨p1, p2, p3, p4, p5, p6⟩ := row_facts r1)
            go_simp
            (try with_reducible rfl)
          (try simp only [Act.put, List.setIfInBounds_toArray, List.set_cons_zero, List.set_cons_succ, List.getElem_toArray, List.getElem_cons_succ, List.getElem_cons_zero])
          refine wpAnyH_take (i := 34) (oi := _) (v := ?_) rfl (by kernel_rfl) (by kernel_rfl) (by kernel_rfl) (fun _ _ _ h => h) (Or.inl ⟨by rfl, ?_⟩) (by assumption) ?_
          rotate_left
          · intro w' hSw
            (obtain ⟨r1, c0, c1, c2, c3, c4, c5, c6⟩ := hSw; obtain ⟨p1, p2, p3, p4, p5, p6⟩ := row_facts r1)
            go_simp
            (try with_reducible rfl)
          (try simp only [Act.put, List.setIfInBounds_toArray, List.set_cons_zero, List.set_cons_succ, List.getElem_toArray, List.getElem_cons_succ, List.getElem_cons_zero])
          refine wpAnyH_take (i := 35) (oi := _) (v := ?_) rfl (by kernel_rfl) (by kernel_rfl) (by kernel_rfl) (fun _ _ _ h => h) (Or.inl ⟨by rfl, ?_⟩) (by assumption) ?_
          rotate_left
          · intro w' hSw
            (obtain ⟨r1, c0, c1, c2, c3, c4, c5, c6⟩ := hSw; obtain ⟨p1, p2, p3, p4, p5, p6⟩ := row_facts r1)
            go_simp
            (try with_reducible rfl)
          (try simp only [Act.put, List.setIfInBounds_toArray, List.set_cons_zero, List.set_cons_succ, List.getElem_toArray, List.getElem_cons_succ, List.getElem_cons_zero])
          refine wpAnyH_take (i := 36) (oi := _) (v := ?_) rfl (by kernel_rfl) (by kernel_rfl) (by kernel_rfl) (fun _ _ _ h => h) (Or.inl ⟨by rfl, ?_⟩) (by assumption) ?_
          rotate_left
          · intro w' hSw
            (obtain ⟨r1, c0, c1, c2, c3, c4, c5, c6⟩ := hSw; obtain ⟨p1, p2, p3, p4, p5, p6⟩ := row_facts r1)
            go_simp
            (try with_reducible rfl)
          (try simp only [Act.put, List.setIfInBounds_toArray, List.set_cons_zero, List.set_cons_succ, List.getElem_toArray, List.getElem_cons_succ, List.getElem_cons_zero])
          refine wpAnyH_take (i := 37) (oi := _) (v := ?_) rfl (by kernel_rfl) (by kernel_rfl) (by kernel_rfl) (fun _ _ _ h => h) (Or.inl ⟨by rfl, ?_⟩) (by assumption) ?_
          rotate_left
          · intro w' hSw
            (obtain ⟨r1, c0, c1, c2, c3, c4, c5, c6⟩ := hSw; obtain ⟨p1, p2, p3, p4, p5, p6⟩ := row_facts r1)
            go_simp
            (try with_reducible rfl)
          (try simp only [Act.put, List.setIfInBounds_toArray, List.set_cons_zero, List.set_cons_succ, List.getElem_toArray, List.getElem_cons_succ, List.getElem_cons_zero])
          refine wpAnyH_take (i := 38) (oi := _) (v := ?_) rfl (by kernel_rfl) (by kernel_rfl) (by kernel_rfl) (fun _ _ _ h => h) (Or.inl ⟨by rfl, ?_⟩) (by assumption) ?_
          rotate_left
          · intro w' hSw
            (obtain ⟨r1, c0, c1, c2, c3, c4, c5, c6⟩ := hSw; obtain ⟨p1, p2, p3, p4, p5, p6⟩ := row_facts r1)
            go_simp
            (try with_reducible rfl)
          (try simp only [Act.put, List.setIfInBounds_toArray, List.set_cons_zero, List.set_cons_succ, List.getElem_toArray, List.getElem_cons_succ, List.getElem_cons_zero])
          refine wpAnyH_take (i := 39) (oi := _) (v := ?_) rfl (by kernel_rfl) (by kernel_rfl) (by kernel_rfl) (fun _ _ _ h => h) (Or.inl ⟨by rfl, ?_⟩) (by assumption) ?_
          rotate_left
          · intro w' hSw
            (obtain ⟨r1, c0, c1, c2, c3, c4, c5, c6⟩ := hSw; obtain ⟨p1, p2, p3, p4, p5, p6⟩ := row_facts r1)
            go_simp
            (try with_reducible rfl)
          (try simp only [Act.put, List.setIfInBounds_toArray, List.set_cons_zero, List.set_cons_succ, List.getElem_toArray, List.getElem_cons_succ, List.getElem_cons_zero])
          refine wpAnyH_done (by kernel_rfl) ?_ _
          refine NoPanic.normal ?_
          go_wp2_with fail
          go_roundw
          case rel => exact ⟨j + 1, by omega, by go_num, by first | (rw [hcE]; done) | (rw [hcE]; go_num), hb12.drew⟩
          case measure => simp [intOf]; omega
      · have hcE : ((l.take (j + 1)).filter fun d => decide (d.id ∈ xs)).length = c := by rw [HCC.out, if_neg i3]; rfl
        rw [i5] at f0 f1 f2 f3 f4 f5 f6
        rw [i4] at f5
        have CC := Lib.hid (contains_ids (.slice fa xs.length fc) xs d.id w10 I10.out)
        rw [decide_eq_false i3] at CC
        obtain ⟨y1, y2, y3, y4, y5, y6⟩ := row_facts F10.out
        go_wp2_with fail
        refine CC.out.mono ?_
        rintro e w11 ⟨rfl, hb11⟩
        have r11 := R10.out.run hb11
        have hb12 := below_run HB10.out hb11
        have R11 := Lib.hid r11
        replace f0 := (hb11.cell (p := ⟨b2, off2 + j * 7, none⟩) hlt10).trans f0
        replace f1 := (hb11.cell (p := ⟨b2, off2 + j * 7 + 1, none⟩) hlt10).trans f1
        replace f2 := (hb11.cell (p := ⟨b2, off2 + j * 7 + 2, none⟩) hlt10).trans f2
        replace f3 := (hb11.cell (p := ⟨b2, off2 + j * 7 + 3, none⟩) hlt10).trans f3
        replace f4 := (hb11.cell (p := ⟨b2, off2 + j * 7 + 4, none⟩) hlt10).trans f4
        replace f5 := (hb11.cell (p := ⟨b2, off2 + j * 7 + 5, none⟩) hlt10).trans f5
        replace f6 := (hb11.cell (p := ⟨b2, off2 + j * 7 + 6, none⟩) hlt10).trans f6
        clear x1 x2 x3 x4 x5 x6 y1 y2 y3 y4 y5 y6 z1 z2 z3 z4 z5 z6 hb11 CC
        rw [i4] at R11
        clear i1 i2 i3 i4 i5
        go_wp2_with fail
        refine wp_region_noPanic ?_
        refine wp_region_held_drew (S := (fun w' => RowAt w' g10 36 #[.int .u64 d.id, .int .i64 d.ft, .int .i64 d.ad, .string d.lb, .int .i64 d.hr, .bool true, .bool d.idf] ∧ w'.cell? ⟨b2, off2 + j * 7, none⟩ = some (.int .u64 d.id) ∧ w'.cell? ⟨b2, off2 + j * 7 + 1, none⟩ = some (.int .i64 d.ft) ∧ w'.cell? ⟨b2, off2 + j * 7 + 2, none⟩ = some (.int .i64 d.ad) ∧ w'.cell? ⟨b2, off2 + j * 7 + 3, none⟩ = some (.string d.lb) ∧ w'.cell? ⟨b2, off2 + j * 7 + 4, none⟩ = some (.int .i64 d.hr) ∧ w'.cell? ⟨b2, off2 + j * 7 + 5, none⟩ = some (.bool true) ∧ w'.cell? ⟨b2, off2 + j * 7 + 6, none⟩ = some (.bool d.idf))) (by kernel_rfl) ?_ (fun hHeld => ?_)
        · exact ⟨R11.out.drew, f0, f1, f2, f3, f4, f5, f6⟩
        refine wpAnyH_take (i := 0) (oi := _) (v := ?_) rfl (by kernel_rfl) (by kernel_rfl) (by kernel_rfl) (fun _ _ _ h => h) (Or.inl ⟨by rfl, ?_⟩) (by assumption) ?_
        rotate_left
        · intro w' hSw
          (obtain ⟨r1, c0, c1, c2, c3, c4, c5, c6⟩ := hSw; obtain ⟨p1, p2, p3, p4, p5, p6⟩ := row_facts r1)
          go_simp
          (try with_reducible rfl)
        (try simp only [Act.put, List.setIfInBounds_toArray, List.set_cons_zero, List.set_cons_succ, List.getElem_toArray, List.getElem_cons_zero])
        refine wpAnyH_take (i := 1) (oi := _) (v := ?_) rfl (by kernel_rfl) (by kernel_rfl) (by kernel_rfl) (fun _ _ _ h => h) (Or.inl ⟨by rfl, ?_⟩) (by assumption) ?_
        rotate_left
        · intro w' hSw
          (obtain ⟨r1, c0, c1, c2, c3, c4, c5, c6⟩ := hSw; obtain ⟨p1, p2, p3, p4, p5, p6⟩ := row_facts r1)
          go_simp
          (try with_reducible rfl)
        (try simp only [Act.put, List.setIfInBounds_toArray, List.set_cons_zero, List.set_cons_succ, List.getElem_toArray, List.getElem_cons_succ, List.getElem_cons_zero])
        refine wpAnyH_take (i := 2) (oi := _) (v := ?_) rfl (by kernel_rfl) (by kernel_rfl) (by kernel_rfl) (fun _ _ _ h => h) (Or.inl ⟨by rfl, ?_⟩) (by assumption) ?_
        rotate_left
        · intro w' hSw
          (obtain ⟨r1, c0, c1, c2, c3, c4, c5, c6⟩ := hSw; obtain ⟨p1, p2, p3, p4, p5, p6⟩ := row_facts r1)
          go_simp
          (try with_reducible rfl)
        (try simp only [Act.put, List.setIfInBounds_toArray, List.set_cons_zero, List.set_cons_succ, List.getElem_toArray, List.getElem_cons_succ, List.getElem_cons_zero])
        refine wpAnyH_take (i := 3) (oi := _) (v := ?_) rfl (by kernel_rfl) (by kernel_rfl) (by kernel_rfl) (fun _ _ _ h => h) (Or.inl ⟨by rfl, ?_⟩) (by assumption) ?_
        rotate_left
        · intro w' hSw
          (obtain ⟨r1, c0, c1, c2, c3, c4, c5, c6⟩ := hSw; obtain ⟨p1, p2, p3, p4, p5, p6⟩ := row_facts r1)
          go_simp
          (try with_reducible rfl)
        (try simp only [Act.put, List.setIfInBounds_toArray, List.set_cons_zero, List.set_cons_succ, List.getElem_toArray, List.getElem_cons_succ, List.getElem_cons_zero])
        refine wpAnyH_take (i := 4) (oi := _) (v := ?_) rfl (by kernel_rfl) (by kernel_rfl) (by kernel_rfl) (fun _ _ _ h => h) (Or.inl ⟨by rfl, ?_⟩) (by assumption) ?_
        rotate_left
        · intro w' hSw
          (obtain ⟨r1, c0, c1, c2, c3, c4, c5, c6⟩ := hSw; obtain ⟨p1, p2, p3, p4, p5, p6⟩ := row_facts r1)
          go_simp
          (try with_reducible rfl)
        (try simp only [Act.put, List.setIfInBounds_toArray, List.set_cons_zero, List.set_cons_succ, List.getElem_toArray, List.getElem_cons_succ, List.getElem_cons_zero])
        refine wpAnyH_take (i := 5) (oi := _) (v := ?_) rfl (by kernel_rfl) (by kernel_rfl) (by kernel_rfl) (fun _ _ _ h => h) (Or.inl ⟨by rfl, ?_⟩) (by assumption) ?_
        rotate_left
        · intro w' hSw
          (obtain ⟨r1, c0, c1, c2, c3, c4, c5, c6⟩ := hSw; obtain ⟨p1, p2, p3, p4, p5, p6⟩ := row_facts r1)
          go_simp
          (try with_reducible rfl)
        (try simp only [Act.put, List.setIfInBounds_toArray, List.set_cons_zero, List.set_cons_succ, List.getElem_toArray, List.getElem_cons_succ, List.getElem_cons_zero])
        refine wpAnyH_take (i := 6) (oi := _) (v := ?_) rfl (by kernel_rfl) (by kernel_rfl) (by kernel_rfl) (fun _ _ _ h => h) (Or.inl ⟨by rfl, ?_⟩) (by assumption) ?_
        rotate_left
        · intro w' hSw
          (obtain ⟨r1, c0, c1, c2, c3, c4, c5, c6⟩ := hSw; obtain ⟨p1, p2, p3, p4, p5, p6⟩ := row_facts r1)
          go_simp
          (try with_reducible rfl)
        (try simp only [Act.put, List.setIfInBounds_toArray, List.set_cons_zero, List.set_cons_succ, List.getElem_toArray, List.getElem_cons_succ, List.getElem_cons_zero])
        refine wpAnyH_take (i := 7) (oi := _) (v := undef) rfl (by kernel_rfl) (by kernel_rfl) (by kernel_rfl) (fun _ _ _ h => h) (Or.inr ⟨by rfl, rfl⟩) (by assumption) ?_
        (try simp only [Act.put, List.setIfInBounds_toArray, List.set_cons_zero, List.set_cons_succ, List.getElem_toArray, List.getElem_cons_succ, List.getElem_cons_zero])
        refine wpAnyH_take (i := 8) (oi := _) (v := undef) rfl (by kernel_rfl) (by kernel_rfl) (by kernel_rfl) (fun _ _ _ h => h) (Or.inr ⟨by rfl, rfl⟩) (by assumption) ?_
        (try simp only [Act.put, List.setIfInBounds_toArray, List.set_cons_zero, List.set_cons_succ, List.getElem_toArray, List.getElem_cons_succ, List.getElem_cons_zero])
        refine wpAnyH_take (i := 9) (oi := _) (v := ?_) rfl (by kernel_rfl) (by kernel_rfl) (by kernel_rfl) (fun _ _ _ h => h) (Or.inl ⟨by rfl, ?_⟩) (by assumption) ?_
        rotate_left
        · intro w' hSw
          (obtain ⟨r1, c0, c1, c2, c3, c4, c5, c6⟩ := hSw; obtain ⟨p1, p2, p3, p4, p5, p6⟩ := row_facts r1)
          go_simp
          (try with_reducible rfl)
        (try simp only [Act.put, List.setIfInBounds_toArray, List.set_cons_zero, List.set_cons_succ, List.getElem_toArray, List.getElem_cons_succ, List.getElem_cons_zero])
        refine wpAnyH_take (i := 10) (oi := _) (v := ?_) rfl (by kernel_rfl) (by kernel_rfl) (by kernel_rfl) (fun _ _ _ h => h) (Or.inl ⟨by rfl, ?_⟩) (by assumption) ?_
        rotate_left
        · intro w' hSw
          (obtain ⟨r1, c0, c1, c2, c3, c4, c5, c6⟩ := hSw; obtain ⟨p1, p2, p3, p4, p5, p6⟩ := row_facts r1)
          go_simp
          (try with_reducible rfl)
        (try simp only [Act.put, List.setIfInBounds_toArray, List.set_cons_zero, List.set_cons_succ, List.getElem_toArray, List.getElem_cons_succ, List.getElem_cons_zero])
        refine wpAnyH_take (i := 11) (oi := _) (v := ?_) rfl (by kernel_rfl) (by kernel_rfl) (by kernel_rfl) (fun _ _ _ h => h) (Or.inl ⟨by rfl, ?_⟩) (by assumption) ?_
        rotate_left
        · intro w' hSw
          (obtain ⟨r1, c0, c1, c2, c3, c4, c5, c6⟩ := hSw; obtain ⟨p1, p2, p3, p4, p5, p6⟩ := row_facts r1)
          go_simp
          (try with_reducible rfl)
        (try simp only [Act.put, List.setIfInBounds_toArray, List.set_cons_zero, List.set_cons_succ, List.getElem_toArray, List.getElem_cons_succ, List.getElem_cons_zero])
        refine wpAnyH_take (i := 12) (oi := _) (v := ?_) rfl (by kernel_rfl) (by kernel_rfl) (by kernel_rfl) (fun _ _ _ h => h) (Or.inl ⟨by rfl, ?_⟩) (by assumption) ?_
        rotate_left
        · intro w' hSw
          (obtain ⟨r1, c0, c1, c2, c3, c4, c5, c6⟩ := hSw; obtain ⟨p1, p2, p3, p4, p5, p6⟩ := row_facts r1)
          go_simp
          (try with_reducible rfl)
        (try simp only [Act.put, List.setIfInBounds_toArray, List.set_cons_zero, List.set_cons_succ, List.getElem_toArray, List.getElem_cons_succ, List.getElem_cons_zero])
        refine wpAnyH_take (i := 13) (oi := _) (v := undef) rfl (by kernel_rfl) (by kernel_rfl) (by kernel_rfl) (fun _ _ _ h => h) (Or.inr ⟨by rfl, rfl⟩) (by assumption) ?_
        (try simp only [Act.put, List.setIfInBounds_toArray, List.set_cons_zero, List.set_cons_succ, List.getElem_toArray, List.getElem_cons_succ, List.getElem_cons_zero])
        refine wpAnyH_take (i := 14) (oi := _) (v := undef) rfl (by kernel_rfl) (by kernel_rfl) (by kernel_rfl) (fun _ _ _ h => h) (Or.inr ⟨by rfl, rfl⟩) (by assumption) ?_
        (try simp only [Act.put, List.setIfInBounds_toArray, List.set_cons_zero, List.set_cons_succ, List.getElem_toArray, List.getElem_cons_succ, List.getElem_cons_zero])
        refine wpAnyH_take (i := 15) (oi := _) (v := ?_) rfl (by kernel_rfl) (by kernel_rfl) (by kernel_rfl) (fun _ _ _ h => h) (Or.inl ⟨by rfl, ?_⟩) (by assumption) ?_
        rotate_left
        · intro w' hSw
          (obtain ⟨r1, c0, c1, c2, c3, c4, c5, c6⟩ := hSw; obtain ⟨p1, p2, p3, p4, p5, p6⟩ := row_facts r1)
          go_simp
          (try with_reducible rfl)
        (try simp only [Act.put, List.setIfInBounds_toArray, List.set_cons_zero, List.set_cons_succ, List.getElem_toArray, List.getElem_cons_succ, List.getElem_cons_zero])
        refine wpAnyH_take (i := 16) (oi := _) (v := ?_) rfl (by kernel_rfl) (by kernel_rfl) (by kernel_rfl) (fun _ _ _ h => h) (Or.inl ⟨by rfl, ?_⟩) (by assumption) ?_
        rotate_left
        · intro w' hSw
          (obtain ⟨r1, c0, c1, c2, c3, c4, c5, c6⟩ := hSw; obtain ⟨p1, p2, p3, p4, p5, p6⟩ := row_facts r1)
          go_simp
          (try with_reducible rfl)
        (try simp only [Act.put, List.setIfInBounds_toArray, List.set_cons_zero, List.set_cons_succ, List.getElem_toArray, List.getElem_cons_succ, List.getElem_cons_zero])
        refine wpAnyH_take (i := 17) (oi := _) (v := ?_) rfl (by kernel_rfl) (by kernel_rfl) (by kernel_rfl) (fun _ _ _ h => h) (Or.inl ⟨by rfl, ?_⟩) (by assumption) ?_
        rotate_left
        · intro w' hSw
          (obtain ⟨r1, c0, c1, c2, c3, c4, c5, c6⟩ := hSw; obtain ⟨p1, p2, p3, p4, p5, p6⟩ := row_facts r1)
          go_simp
          (try with_reducible rfl)
        (try simp only [Act.put, List.setIfInBounds_toArray, List.set_cons_zero, List.set_cons_succ, List.getElem_toArray, List.getElem_cons_succ, List.getElem_cons_zero])
        refine wpAnyH_take (i := 18) (oi := _) (v := ?_) rfl (by kernel_rfl) (by kernel_rfl) (by kernel_rfl) (fun _ _ _ h => h) (Or.inl ⟨by rfl, ?_⟩) (by assumption) ?_
        rotate_left
        · intro w' hSw
          (obtain ⟨r1, c0, c1, c2, c3, c4, c5, c6⟩ := hSw; obtain ⟨p1, p2, p3, p4, p5, p6⟩ := row_facts r1)
          go_simp
          (try with_reducible rfl)
        (try simp only [Act.put, List.setIfInBounds_toArray, List.set_cons_zero, List.set_cons_succ, List.getElem_toArray, List.getElem_cons_succ, List.getElem_cons_zero])
        refine wpAnyH_take (i := 19) (oi := _) (v := ?_) rfl (by kernel_rfl) (by kernel_rfl) (by kernel_rfl) (fun _ _ _ h => h) (Or.inl ⟨by rfl, ?_⟩) (by assumption) ?_
        rotate_left
        · intro w' hSw
          (obtain ⟨r1, c0, c1, c2, c3, c4, c5, c6⟩ := hSw; obtain ⟨p1, p2, p3, p4, p5, p6⟩ := row_facts r1)
          go_simp
          (try with_reducible rfl)
        (try simp only [Act.put, List.setIfInBounds_toArray, List.set_cons_zero, List.set_cons_succ, List.getElem_toArray, List.getElem_cons_succ, List.getElem_cons_zero])
        refine wpAnyH_take (i := 20) (oi := _) (v := ?_) rfl (by kernel_rfl) (by kernel_rfl) (by kernel_rfl) (fun _ _ _ h => h) (Or.inl ⟨by rfl, ?_⟩) (by assumption) ?_
        rotate_left
        · intro w' hSw
          (obtain ⟨r1, c0, c1, c2, c3, c4, c5, c6⟩ := hSw; obtain ⟨p1, p2, p3, p4, p5, p6⟩ := row_facts r1)
          go_simp
          (try with_reducible rfl)
        (try simp only [Act.put, List.setIfInBounds_toArray, List.set_cons_zero, List.set_cons_succ, List.getElem_toArray, List.getElem_cons_succ, List.getElem_cons_zero])
        refine wpAnyH_take (i := 21) (oi := _) (v := undef) rfl (by kernel_rfl) (by kernel_rfl) (by kernel_rfl) (fun _ _ _ h => h) (Or.inr ⟨by rfl, rfl⟩) (by assumption) ?_
        (try simp only [Act.put, List.setIfInBounds_toArray, List.set_cons_zero, List.set_cons_succ, List.getElem_toArray, List.getElem_cons_succ, List.getElem_cons_zero])
        refine wpAnyH_take (i := 22) (oi := _) (v := undef) rfl (by kernel_rfl) (by kernel_rfl) (by kernel_rfl) (fun _ _ _ h => h) (Or.inr ⟨by rfl, rfl⟩) (by assumption) ?_
        (try simp only [Act.put, List.setIfInBounds_toArray, List.set_cons_zero, List.set_cons_succ, List.getElem_toArray, List.getElem_cons_succ, List.getElem_cons_zero])
        refine wpAnyH_take (i := 23) (oi := _) (v := undef) rfl (by kernel_rfl) (by kernel_rfl) (by kernel_rfl) (fun _ _ _ h => h) (Or.inr ⟨by rfl, rfl⟩) (by assumption) ?_
        (try simp only [Act.put, List.setIfInBounds_toArray, List.set_cons_zero, List.set_cons_succ, List.getElem_toArray, List.getElem_cons_succ, List.getElem_cons_zero])
        refine wpAnyH_take (i := 24) (oi := _) (v := undef) rfl (by kernel_rfl) (by kernel_rfl) (by kernel_rfl) (fun _ _ _ h => h) (Or.inr ⟨by rfl, rfl⟩) (by assumption) ?_
        (try simp only [Act.put, List.setIfInBounds_toArray, List.set_cons_zero, List.set_cons_succ, List.getElem_toArray, List.getElem_cons_succ, List.getElem_cons_zero])
        refine wpAnyH_take (i := 25) (oi := _) (v := undef) rfl (by kernel_rfl) (by kernel_rfl) (by kernel_rfl) (fun _ _ _ h => h) (Or.inr ⟨by rfl, rfl⟩) (by assumption) ?_
        (try simp only [Act.put, List.setIfInBounds_toArray, List.set_cons_zero, List.set_cons_succ, List.getElem_toArray, List.getElem_cons_succ, List.getElem_cons_zero])
        refine wpAnyH_take (i := 26) (oi := _) (v := undef) rfl (by kernel_rfl) (by kernel_rfl) (by kernel_rfl) (fun _ _ _ h => h) (Or.inr ⟨by rfl, rfl⟩) (by assumption) ?_
        (try simp only [Act.put, List.setIfInBounds_toArray, List.set_cons_zero, List.set_cons_succ, List.getElem_toArray, List.getElem_cons_succ, List.getElem_cons_zero])
        refine wpAnyH_take (i := 27) (oi := _) (v := ?_) rfl (by kernel_rfl) (by kernel_rfl) (by kernel_rfl) (fun _ _ _ h => h) (Or.inl ⟨by rfl, ?_⟩) (by assumption) ?_
        rotate_left
        · intro w' hSw
          (obtain ⟨r1, c0, c1, c2, c3, c4, c5, c6⟩ := hSw; obtain ⟨p1, p2, p3, p4, p5, p6⟩ := row_facts r1)
          go_simp
          (try with_reducible rfl)
        (try simp only [Act.put, List.setIfInBounds_toArray, List.set_cons_zero, List.set_cons_succ, List.getElem_toArray, List.getElem_cons_succ, List.getElem_cons_zero])
        refine wpAnyH_take (i := 28) (oi := _) (v := ?_) rfl (by kernel_rfl) (by kernel_rfl) (by kernel_rfl) (fun _ _ _ h => h) (Or.inl ⟨by rfl, ?_⟩) (by assumption) ?_
        rotate_left
        · intro w' hSw
          (obtain ⟨r1, c0, c1, c2, c3, c4, c5, c6⟩ := hSw; obtain ⟨p1, p2, p3, p4, p5, p6⟩ := row_facts r1)
          go_simp
          (try with_reducible rfl)
        (try simp only [Act.put, List.setIfInBounds_toArray, List.set_cons_zero, List.set_cons_succ, List.getElem_toArray, List.getElem_cons_succ, List.getElem_cons_zero])
        refine wpAnyH_take (i := 29) (oi := _) (v := ?_) rfl (by kernel_rfl) (by kernel_rfl) (by kernel_rfl) (fun _ _ _ h => h) (Or.inl ⟨by rfl, ?_⟩) (by assumption) ?_
        rotate_left
        · intro w' hSw
          (obtain ⟨r1, c0, c1, c2, c3, c4, c5, c6⟩ := hSw; obtain ⟨p1, p2, p3, p4, p5, p6⟩ := row_facts r1)
          go_simp
          (try with_reducible rfl)
        (try simp only [Act.put, List.setIfInBounds_toArray, List.set_cons_zero, List.set_cons_succ, List.getElem_toArray, List.getElem_cons_succ, List.getElem_cons_zero])
        refine wpAnyH_take (i := 30) (oi := _) (v := ?_) rfl (by kernel_rfl) (by kernel_rfl) (by kernel_rfl) (fun _ _ _ h => h) (Or.inl ⟨by rfl, ?_⟩) (by assumption) ?_
        rotate_left
        · intro w' hSw
          (obtain ⟨r1, c0, c1, c2, c3, c4, c5, c6⟩ := hSw; obtain ⟨p1, p2, p3, p4, p5, p6⟩ := row_facts r1)
          go_simp
          (try with_reducible rfl)
        (try simp only [Act.put, List.setIfInBounds_toArray, List.set_cons_zero, List.set_cons_succ, List.getElem_toArray, List.getElem_cons_succ, List.getElem_cons_zero])
        refine wpAnyH_take (i := 31) (oi := _) (v := ?_) rfl (by kernel_rfl) (by kernel_rfl) (by kernel_rfl) (fun _ _ _ h => h) (Or.inl ⟨by rfl, ?_⟩) (by assumption) ?_
        rotate_left
        · intro w' hSw
          (obtain ⟨r1, c0, c1, c2, c3, c4, c5, c6⟩ := hSw; obtain ⟨p1, p2, p3, p4, p5, p6⟩ := row_facts r1)
          go_simp
          (try with_reducible rfl)
        (try simp only [Act.put, List.setIfInBounds_toArray, List.set_cons_zero, List.set_cons_succ, List.getElem_toArray, List.getElem_cons_succ, List.getElem_cons_zero])
        refine wpAnyH_take (i := 32) (oi := _) (v := ?_) rfl (by kernel_rfl) (by kernel_rfl) (by kernel_rfl) (fun _ _ _ h => h) (Or.inl ⟨by rfl, ?_⟩) (by assumption) ?_
        rotate_left
        · intro w' hSw
          (obtain ⟨r1, c0, c1, c2, c3, c4, c5, c6⟩ := hSw; obtain ⟨p1, p2, p3, p4, p5, p6⟩ := row_facts r1)
          go_simp
          (try with_reducible rfl)
        (try simp only [Act.put, List.setIfInBounds_toArray, List.set_cons_zero, List.set_cons_succ, List.getElem_toArray, List.getElem_cons_succ, List.getElem_cons_zero])
        refine wpAnyH_take (i := 33) (oi := _) (v := ?_) rfl (by kernel_rfl) (by kernel_rfl) (by kernel_rfl) (fun _ _ _ h => h) (Or.inl ⟨by rfl, ?_⟩) (by assumption) ?_
        rotate_left
        · intro w' hSw
          (obtain ⟨r1, c0, c1, c2, c3, c4, c5, c6⟩ := hSw; obtain ⟨p1, p2, p3, p4, p5, p6⟩ := row_facts r1)
          go_simp
          (try with_reducible rfl)
        (try simp only [Act.put, List.setIfInBounds_toArray, List.set_cons_zero, List.set_cons_succ, List.getElem_toArray, List.getElem_cons_succ, List.getElem_cons_zero])
        refine wpAnyH_take (i := 34) (oi := _) (v := ?_) rfl (by kernel_rfl) (by kernel_rfl) (by kernel_rfl) (fun _ _ _ h => h) (Or.inl ⟨by rfl, ?_⟩) (by assumption) ?_
        rotate_left
        · intro w' hSw
          (obtain ⟨r1, c0, c1, c2, c3, c4, c5, c6⟩ := hSw; obtain ⟨p1, p2, p3, p4, p5, p6⟩ := row_facts r1)
          go_simp
          (try with_reducible rfl)
        (try simp only [Act.put, List.setIfInBounds_toArray, List.set_cons_zero, List.set_cons_succ, List.getElem_toArray, List.getElem_cons_succ, List.getElem_cons_zero])
        refine wpAnyH_take (i := 35) (oi := _) (v := ?_) rfl (by kernel_rfl) (by kernel_rfl) (by kernel_rfl) (fun _ _ _ h => h) (Or.inl ⟨by rfl, ?_⟩) (by assumption) ?_
        rotate_left
        · intro w' hSw
          (obtain ⟨r1, c0, c1, c2, c3, c4, c5, c6⟩ := hSw; obtain ⟨p1, p2, p3, p4, p5, p6⟩ := row_facts r1)
          go_simp
          (try with_reducible rfl)
        (try simp only [Act.put, List.setIfInBounds_toArray, List.set_cons_zero, List.set_cons_succ, List.getElem_toArray, List.getElem_cons_succ, List.getElem_cons_zero])
        refine wpAnyH_take (i := 36) (oi := _) (v := ?_) rfl (by kernel_rfl) (by kernel_rfl) (by kernel_rfl) (fun _ _ _ h => h) (Or.inl ⟨by rfl, ?_⟩) (by assumption) ?_
        rotate_left
        · intro w' hSw
          (obtain ⟨r1, c0, c1, c2, c3, c4, c5, c6⟩ := hSw; obtain ⟨p1, p2, p3, p4, p5, p6⟩ := row_facts r1)
          go_simp
          (try with_reducible rfl)
        (try simp only [Act.put, List.setIfInBounds_toArray, List.set_cons_zero, List.set_cons_succ, List.getElem_toArray, List.getElem_cons_succ, List.getElem_cons_zero])
        refine wpAnyH_take (i := 37) (oi := _) (v := ?_) rfl (by kernel_rfl) (by kernel_rfl) (by kernel_rfl) (fun _ _ _ h => h) (Or.inl ⟨by rfl, ?_⟩) (by assumption) ?_
        rotate_left
        · intro w' hSw
          (obtain ⟨r1, c0, c1, c2, c3, c4, c5, c6⟩ := hSw; obtain ⟨p1, p2, p3, p4, p5, p6⟩ := row_facts r1)
          go_simp
          (try with_reducible rfl)
        (try simp only [Act.put, List.setIfInBounds_toArray, List.set_cons_zero, List.set_cons_succ, List.getElem_toArray, List.getElem_cons_succ, List.getElem_cons_zero])
        refine wpAnyH_take (i := 38) (oi := _) (v := ?_) rfl (by kernel_rfl) (by kernel_rfl) (by kernel_rfl) (fun _ _ _ h => h) (Or.inl ⟨by rfl, ?_⟩) (by assumption) ?_
        rotate_left
        · intro w' hSw
          (obtain ⟨r1, c0, c1, c2, c3, c4, c5, c6⟩ := hSw; obtain ⟨p1, p2, p3, p4, p5, p6⟩ := row_facts r1)
          go_simp
          (try with_reducible rfl)
        (try simp only [Act.put, List.setIfInBounds_toArray, List.set_cons_zero, List.set_cons_succ, List.getElem_toArray, List.getElem_cons_succ, List.getElem_cons_zero])
        refine wpAnyH_take (i := 39) (oi := _) (v := ?_) rfl (by kernel_rfl) (by kernel_rfl) (by kernel_rfl) (fun _ _ _ h => h) (Or.inl ⟨by rfl, ?_⟩) (by assumption) ?_
        rotate_left
        · intro w' hSw
          (obtain ⟨r1, c0, c1, c2, c3, c4, c5, c6⟩ := hSw; obtain ⟨p1, p2, p3, p4, p5, p6⟩ := row_facts r1)
          go_simp
          (try with_reducible rfl)
        (try simp only [Act.put, List.setIfInBounds_toArray, List.set_cons_zero, List.set_cons_succ, List.getElem_toArray, List.getElem_cons_succ, List.getElem_cons_zero])
        refine wpAnyH_done (by kernel_rfl) ?_ _
        refine NoPanic.normal ?_
        go_wp2_with fail
        go_roundw
        case rel => exact ⟨j + 1, by omega, by go_num, by first | (rw [hcE]; done) | (rw [hcE]; go_num), hb12.drew⟩
        case measure => simp [intOf]; omega
      · have hcE : ((l.take (j + 1)).filter fun d => decide (d.id ∈ xs)).length = c := by rw [HCC.out, if_neg i3]; rfl
        rw [i5] at f0 f1 f2 f3 f4 f5 f6
        by_cases i6 : low ≤ d.id
        · have i7 : ¬ d.id ≤ high := fun e => i1 ⟨i6, e⟩
          have CC := Lib.hid (contains_ids (.slice fa xs.length fc) xs d.id w10 I10.out)
          rw [decide_eq_false i3] at CC
          obtain ⟨y1, y2, y3, y4, y5, y6⟩ := row_facts F10.out
          go_wp2_with fail
          refine CC.out.mono ?_
          rintro e w11 ⟨rfl, hb11⟩
          have r11 := R10.out.run hb11
          have hb12 := below_run HB10.out hb11
          have R11 := Lib.hid r11
          replace f0 := (hb11.cell (p := ⟨b2, off2 + j * 7, none⟩) hlt10).trans f0
          replace f1 := (hb11.cell (p := ⟨b2, off2 + j * 7 + 1, none⟩) hlt10).trans f1
          replace f2 := (hb11.cell (p := ⟨b2, off2 + j * 7 + 2, none⟩) hlt10).trans f2
          replace f3 := (hb11.cell (p := ⟨b2, off2 + j * 7 + 3, none⟩) hlt10).trans f3
          replace f4 := (hb11.cell (p := ⟨b2, off2 + j * 7 + 4, none⟩) hlt10).trans f4
          replace f5 := (hb11.cell (p := ⟨b2, off2 + j * 7 + 5, none⟩) hlt10).trans f5
          replace f6 := (hb11.cell (p := ⟨b2, off2 + j * 7 + 6, none⟩) hlt10).trans f6
          clear x1 x2 x3 x4 x5 x6 y1 y2 y3 y4 y5 y6 z1 z2 z3 z4 z5 z6 hb11 CC
          clear i1 i3 i5 i6 i7
          go_wp2_with fail
          refine wp_region_noPanic ?_
          refine wp_region_held_drew (S := (fun w' => RowAt w' g10 36 #[.int .u64 d.id, .int .i64 d.ft, .int .i64 d.ad, .string d.lb, .int .i64 d.hr, .bool d.mu, .bool d.idf] ∧ w'.cell? ⟨b2, off2 + j * 7, none⟩ = some (.int .u64 d.id) ∧ w'.cell? ⟨b2, off2 + j * 7 + 1, none⟩ = some (.int .i64 d.ft) ∧ w'.cell? ⟨b2, off2 + j * 7 + 2, none⟩ = some (.int .i64 d.ad) ∧ w'.cell? ⟨b2, off2 + j * 7 + 3, none⟩ = some (.string d.lb) ∧ w'.cell? ⟨b2, off2 + j * 7 + 4, none⟩ = some (.int .i64 d.hr) ∧ w'.cell? ⟨b2, off2 + j * 7 + 5, none⟩ = some (.bool d.mu) ∧ w'.cell? ⟨b2, off2 + j * 7 + 6, none⟩ = some (.bool d.idf))) (by kernel_rfl) ?_ (fun hHeld => ?_)
          · exact ⟨R11.out.drew, f0, f1, f2, f3, f4, f5, f6⟩
          refine wpAnyH_take (i := 0) (oi := _) (v := ?_) rfl (by kernel_rfl) (by kernel_rfl) (by kernel_rfl) (fun _ _ _ h => h) (Or.inl ⟨by rfl, ?_⟩) (by assumption) ?_
          rotate_left
          · intro w' hSw
            (obtain ⟨r1, c0, c1, c2, c3, c4, c5, c6⟩ := hSw; obtain ⟨p1, p2, p3, p4, p5, p6⟩ := row_facts r1)
            go_simp
            (try with_reducible rfl)
          (try simp only [Act.put, List.setIfInBounds_toArray, List.set_cons_zero, List.set_cons_succ, List.getElem_toArray, List.getElem_cons_zero])
          refine wpAnyH_take (i := 1) (oi := _) (v := ?_) rfl (by kernel_rfl) (by kernel_rfl) (by kernel_rfl) (fun _ _ _ h => h) (Or.inl ⟨by rfl, ?_⟩) (by assumption) ?_
          rotate_left
          · intro w' hSw
            (obtain ⟨r1, c0, c1, c2, c3, c4, c5, c6⟩ := hSw; obtain ⟨p1, p2, p3, p4, p5, p6⟩ := row_facts r1)
            go_simp
            (try with_reducible rfl)
          (try simp only [Act.put, List.setIfInBounds_toArray, List.set_cons_zero, List.set_cons_succ, List.getElem_toArray, List.getElem_cons_succ, List.getElem_cons_zero])
          refine wpAnyH_take (i := 2) (oi := _) (v := undef) rfl (by kernel_rfl) (by kernel_rfl) (by kernel_rfl) (fun _ _ _ h => h) (Or.inr ⟨by rfl, rfl⟩) (by assumption) ?_
          (try simp only [Act.put, List.setIfInBounds_toArray, List.set_cons_zero, List.set_cons_succ, List.getElem_toArray, List.getElem_cons_succ, List.getElem_cons_zero])
          refine wpAnyH_take (i := 3) (oi := _) (v := undef) rfl (by kernel_rfl) (by kernel_rfl) (by kernel_rfl) (fun _ _ _ h => h) (Or.inr ⟨by rfl, rfl⟩) (by assumption) ?_
          (try simp only [Act.put, List.setIfInBounds_toArray, List.set_cons_zero, List.set_cons_succ, List.getElem_toArray, List.getElem_cons_succ, List.getElem_cons_zero])
          refine wpAnyH_take (i := 4) (oi := _) (v := undef) rfl (by kernel_rfl) (by kernel_rfl) (by kernel_rfl) (fun _ _ _ h => h) (Or.inr ⟨by rfl, rfl⟩) (by assumption) ?_
          (try simp only [Act.put, List.setIfInBounds_toArray, List.set_cons_zero, List.set_cons_succ, List.getElem_toArray, List.getElem_cons_succ, List.getElem_cons_zero])
          refine wpAnyH_take (i := 5) (oi := _) (v := ?_) rfl (by kernel_rfl) (by kernel_rfl) (by kernel_rfl) (fun _ _ _ h => h) (Or.inl ⟨by rfl, ?_⟩) (by assumption) ?_
          rotate_left
          · intro w' hSw
            (obtain ⟨r1, c0, c1, c2, c3, c4, c5, c6⟩ := hSw; obtain ⟨p1, p2, p3, p4, p5, p6⟩ := row_facts r1)
            go_simp
            (try with_reducible rfl)
          (try simp only [Act.put, List.setIfInBounds_toArray, List.set_cons_zero, List.set_cons_succ, List.getElem_toArray, List.getElem_cons_succ, List.getElem_cons_zero])
          refine wpAnyH_take (i := 6) (oi := _) (v := ?_) rfl (by kernel_rfl) (by kernel_rfl) (by kernel_rfl) (fun _ _ _ h => h) (Or.inl ⟨by rfl, ?_⟩) (by assumption) ?_
          rotate_left
          · intro w' hSw
            (obtain ⟨r1, c0, c1, c2, c3, c4, c5, c6⟩ := hSw; obtain ⟨p1, p2, p3, p4, p5, p6⟩ := row_facts r1)
            go_simp
            (try with_reducible rfl)
          (try simp only [Act.put, List.setIfInBounds_toArray, List.set_cons_zero, List.set_cons_succ, List.getElem_toArray, List.getElem_cons_succ, List.getElem_cons_zero])
          refine wpAnyH_take (i := 7) (oi := _) (v := undef) rfl (by kernel_rfl) (by kernel_rfl) (by kernel_rfl) (fun _ _ _ h => h) (Or.inr ⟨by rfl, rfl⟩) (by assumption) ?_
          (try simp only [Act.put, List.setIfInBounds_toArray, List.set_cons_zero, List.set_cons_succ, List.getElem_toArray, List.getElem_cons_succ, List.getElem_cons_zero])
          refine wpAnyH_take (i := 8) (oi := _) (v := undef) rfl (by kernel_rfl) (by kernel_rfl) (by kernel_rfl) (fun _ _ _ h => h) (Or.inr ⟨by rfl, rfl⟩) (by assumption) ?_
          (try simp only [Act.put, List.setIfInBounds_toArray, List.set_cons_zero, List.set_cons_succ, List.getElem_toArray, List.getElem_cons_succ, List.getElem_cons_zero])
          refine wpAnyH_take (i := 9) (oi := _) (v := ?_) rfl (by kernel_rfl) (by kernel_rfl) (by kernel_rfl) (fun _ _ _ h => h) (Or.inl ⟨by rfl, ?_⟩) (by assumption) ?_
          rotate_left
          · intro w' hSw
            (obtain ⟨r1, c0, c1, c2, c3, c4, c5, c6⟩ := hSw; obtain ⟨p1, p2, p3, p4, p5, p6⟩ := row_facts r1)
            go_simp
            (try with_reducible rfl)
          (try simp only [Act.put, List.setIfInBounds_toArray, List.set_cons_zero, List.set_cons_succ, List.getElem_toArray, List.getElem_cons_succ, List.getElem_cons_zero])
          refine wpAnyH_take (i := 10) (oi := _) (v := ?_) rfl (by kernel_rfl) (by kernel_rfl) (by kernel_rfl) (fun _ _ _ h => h) (Or.inl ⟨by rfl, ?_⟩) (by assumption) ?_
          rotate_left
          · intro w' hSw
            (obtain ⟨r1, c0, c1, c2, c3, c4, c5, c6⟩ := hSw; obtain ⟨p1, p2, p3, p4, p5, p6⟩ := row_facts r1)
            go_simp
            (try with_reducible rfl)
          (try simp only [Act.put, List.setIfInBounds_toArray, List.set_cons_zero, List.set_cons_succ, List.getElem_toArray, List.getElem_cons_succ, List.getElem_cons_zero])
          refine wpAnyH_take (i := 11) (oi := _) (v := ?_) rfl (by kernel_rfl) (by kernel_rfl) (by kernel_rfl) (fun _ _ _ h => h) (Or.inl ⟨by rfl, ?_⟩) (by assumption) ?_
          rotate_left
          · intro w' hSw
            (obtain ⟨r1, c0, c1, c2, c3, c4, c5, c6⟩ := hSw; obtain ⟨p1, p2, p3, p4, p5, p6⟩ := row_facts r1)
            go_simp
            (try with_reducible rfl)
          (try simp only [Act.put, List.setIfInBounds_toArray, List.set_cons_zero, List.set_cons_succ, List.getElem_toArray, List.getElem_cons_succ, List.getElem_cons_zero])
          refine wpAnyH_take (i := 12) (oi := _) (v := ?_) rfl (by kernel_rfl) (by kernel_rfl) (by kernel_rfl) (fun _ _ _ h => h) (Or.inl ⟨by rfl, ?_⟩) (by assumption) ?_
          rotate_left
          · intro w' hSw
            (obtain ⟨r1, c0, c1, c2, c3, c4, c5, c6⟩ := hSw; obtain ⟨p1, p2, p3, p4, p5, p6⟩ := row_facts r1)
            go_simp
            (try with_reducible rfl)
          (try simp only [Act.put, List.setIfInBounds_toArray, List.set_cons_zero, List.set_cons_succ, List.getElem_toArray, List.getElem_cons_succ, List.getElem_cons_zero])
          refine wpAnyH_take (i := 13) (oi := _) (v := undef) rfl (by kernel_rfl) (by kernel_rfl) (by kernel_rfl) (fun _ _ _ h => h) (Or.inr ⟨by rfl, rfl⟩) (by assumption) ?_
          (try simp only [Act.put, List.setIfInBounds_toArray, List.set_cons_zero, List.set_cons_succ, List.getElem_toArray, List.getElem_cons_succ, List.getElem_cons_zero])
          refine wpAnyH_take (i := 14) (oi := _) (v := undef) rfl (by kernel_rfl) (by kernel_rfl) (by kernel_rfl) (fun _ _ _ h => h) (Or.inr ⟨by rfl, rfl⟩) (by assumption) ?_
          (try simp only [Act.put, List.setIfInBounds_toArray, List.set_cons_zero, List.set_cons_succ, List.getElem_toArray, List.getElem_cons_succ, List.getElem_cons_zero])
          refine wpAnyH_take (i := 15) (oi := _) (v := ?_) rfl (by kernel_rfl) (by kernel_rfl) (by kernel_rfl) (fun _ _ _ h => h) (Or.inl ⟨by rfl, ?_⟩) (by assumption) ?_
          rotate_left
          · intro w' hSw
            (obtain ⟨r1, c0, c1, c2, c3, c4, c5, c6⟩ := hSw; obtain ⟨p1, p2, p3, p4, p5, p6⟩ := row_facts r1)
            go_simp
            (try with_reducible rfl)
          (try simp only [Act.put, List.setIfInBounds_toArray, List.set_cons_zero, List.set_cons_succ, List.getElem_toArray, List.getElem_cons_succ, List.getElem_cons_zero])
          refine wpAnyH_take (i := 16) (oi := _) (v := ?_) rfl (by kernel_rfl) (by kernel_rfl) (by kernel_rfl) (fun _ _ _ h => h) (Or.inl ⟨by rfl, ?_⟩) (by assumption) ?_
          rotate_left
          · intro w' hSw
            (obtain ⟨r1, c0, c1, c2, c3, c4, c5, c6⟩ := hSw; obtain ⟨p1, p2, p3, p4, p5, p6⟩ := row_facts r1)
            go_simp
            (try with_reducible rfl)
          (try simp only [Act.put, List.setIfInBounds_toArray, List.set_cons_zero, List.set_cons_succ, List.getElem_toArray, List.getElem_cons_succ, List.getElem_cons_zero])
          refine wpAnyH_take (i := 17) (oi := _) (v := ?_) rfl (by kernel_rfl) (by kernel_rfl) (by kernel_rfl) (fun _ _ _ h => h) (Or.inl ⟨by rfl, ?_⟩) (by assumption) ?_
          rotate_left
          · intro w' hSw
            (obtain ⟨r1, c0, c1, c2, c3, c4, c5, c6⟩ := hSw; obtain ⟨p1, p2, p3, p4, p5, p6⟩ := row_facts r1)
            go_simp
            (try with_reducible rfl)
          (try simp only [Act.put, List.setIfInBounds_toArray, List.set_cons_zero, List.set_cons_succ, List.getElem_toArray, List.getElem_cons_succ, List.getElem_cons_zero])
          refine wpAnyH_take (i := 18) (oi := _) (v := ?_) rfl (by kernel_rfl) (by kernel_rfl) (by kernel_rfl) (fun _ _ _ h => h) (Or.inl ⟨by rfl, ?_⟩) (by assumption) ?_
          rotate_left
          · intro w' hSw
            (obtain ⟨r1, c0, c1, c2, c3, c4, c5, c6⟩ := hSw; obtain ⟨p1, p2, p3, p4, p5, p6⟩ := row_facts r1)
            go_simp
            (try with_reducible rfl)
          (try simp only [Act.put, List.setIfInBounds_toArray, List.set_cons_zero, List.set_cons_succ, List.getElem_toArray, List.getElem_cons_succ, List.getElem_cons_zero])
          refine wpAnyH_take (i := 19) (oi := _) (v := ?_) rfl (by kernel_rfl) (by kernel_rfl) (by kernel_rfl) (fun _ _ _ h => h) (Or.inl ⟨by rfl, ?_⟩) (by assumption) ?_
          rotate_left
          · intro w' hSw
            (obtain ⟨r1, c0, c1, c2, c3, c4, c5, c6⟩ := hSw; obtain ⟨p1, p2, p3, p4, p5, p6⟩ := row_facts r1)
            go_simp
            (try with_reducible rfl)
          (try simp only [Act.put, List.setIfInBounds_toArray, List.set_cons_zero, List.set_cons_succ, List.getElem_toArray, List.getElem_cons_succ, List.getElem_cons_zero])
          refine wpAnyH_take (i := 20) (oi := _) (v := ?_) rfl (by kernel_rfl) (by kernel_rfl) (by kernel_rfl) (fun _ _ _ h => h) (Or.inl ⟨by rfl, ?_⟩) (by assumption) ?_
          rotate_left
          · intro w' hSw
            (obtain ⟨r1, c0, c1, c2, c3, c4, c5, c6⟩ := hSw; obtain ⟨p1, p2, p3, p4, p5, p6⟩ := row_facts r1)
            go_simp
            (try with_reducible rfl)
          (try simp only [Act.put, List.setIfInBounds_toArray, List.set_cons_zero, List.set_cons_succ, List.getElem_toArray, List.getElem_cons_succ, List.getElem_cons_zero])
          refine wpAnyH_take (i := 21) (oi := _) (v := ?_) rfl (by kernel_rfl) (by kernel_rfl) (by kernel_rfl) (fun _ _ _ h => h) (Or.inl ⟨by rfl, ?_⟩) (by assumption) ?_
          rotate_left
          · intro w' hSw
            (obtain ⟨r1, c0, c1, c2, c3, c4, c5, c6⟩ := hSw; obtain ⟨p1, p2, p3, p4, p5, p6⟩ := row_facts r1)
            go_simp
            (try with_reducible rfl)
          (try simp only [Act.put, List.setIfInBounds_toArray, List.set_cons_zero, List.set_cons_succ, List.getElem_toArray, List.getElem_cons_succ, List.getElem_cons_zero])
          refine wpAnyH_take (i := 22) (oi := _) (v := ?_) rfl (by kernel_rfl) (by kernel_rfl) (by kernel_rfl) (fun _ _ _ h => h) (Or.inl ⟨by rfl, ?_⟩) (by assumption) ?_
          rotate_left
          · intro w' hSw
            (obtain ⟨r1, c0, c1, c2, c3, c4, c5, c6⟩ := hSw; obtain ⟨p1, p2, p3, p4, p5, p6⟩ := row_facts r1)
            go_simp
            (try with_reducible rfl)
          (try simp only [Act.put, List.setIfInBounds_toArray, List.set_cons_zero, List.set_cons_succ, List.getElem_toArray, List.getElem_cons_succ, List.getElem_cons_zero])
          refine wpAnyH_take (i := 23) (oi := _) (v := ?_) rfl (by kernel_rfl) (by kernel_rfl) (by kernel_rfl) (fun _ _ _ h => h) (Or.inl ⟨by rfl, ?_⟩) (by assumption) ?_
          rotate_left
          · intro w' hSw
            (obtain ⟨r1, c0, c1, c2, c3, c4, c5, c6⟩ := hSw; obtain ⟨p1, p2, p3, p4, p5, p6⟩ := row_facts r1)
            go_simp
            (try with_reducible rfl)
          (try simp only [Act.put, List.setIfInBounds_toArray, List.set_cons_zero, List.set_cons_succ, List.getElem_toArray, List.getElem_cons_succ, List.getElem_cons_zero])
          refine wpAnyH_take (i := 24) (oi := _) (v := ?_) rfl (by kernel_rfl) (by kernel_rfl) (by kernel_rfl) (fun _ _ _ h => h) (Or.inl ⟨by rfl, ?_⟩) (by assumption) ?_
          rotate_left
          · intro w' hSw
            (obtain ⟨r1, c0, c1, c2, c3, c4, c5, c6⟩ := hSw; obtain ⟨p1, p2, p3, p4, p5, p6⟩ := row_facts r1)
            go_simp
            (try with_reducible rfl)
          (try simp only [Act.put, List.setIfInBounds_toArray, List.set_cons_zero, List.set_cons_succ, List.getElem_toArray, List.getElem_cons_succ, List.getElem_cons_zero])
          refine wpAnyH_take (i := 25) (oi := _) (v := ?_) rfl (by kernel_rfl) (by kernel_rfl) (by kernel_rfl) (fun _ _ _ h => h) (Or.inl ⟨by rfl, ?_⟩) (by assumption) ?_
          rotate_left
          · intro w' hSw
            (obtain ⟨r1, c0, c1, c2, c3, c4, c5, c6⟩ := hSw; obtain ⟨p1, p2, p3, p4, p5, p6⟩ := row_facts r1)
            go_simp
            (try with_reducible rfl)
          (try simp only [Act.put, List.setIfInBounds_toArray, List.set_cons_zero, List.set_cons_succ, List.getElem_toArray, List.getElem_cons_succ, List.getElem_cons_zero])
          refine wpAnyH_take (i := 26) (oi := _) (v := ?_) rfl (by kernel_rfl) (by kernel_rfl) (by kernel_rfl) (fun _ _ _ h => h) (Or.inl ⟨by rfl, ?_⟩) (by assumption) ?_
          rotate_left
          · intro w' hSw
            (obtain ⟨r1, c0, c1, c2, c3, c4, c5, c6⟩ := hSw; obtain ⟨p1, p2, p3, p4, p5, p6⟩ := row_facts r1)
            go_simp
            (try with_reducible rfl)
          (try simp only [Act.put, List.setIfInBounds_toArray, List.set_cons_zero, List.set_cons_succ, List.getElem_toArray, List.getElem_cons_succ, List.getElem_cons_zero])
          refine wpAnyH_take (i := 27) (oi := _) (v := ?_) rfl (by kernel_rfl) (by kernel_rfl) (by kernel_rfl) (fun _ _ _ h => h) (Or.inl ⟨by rfl, ?_⟩) (by assumption) ?_
          rotate_left
          · intro w' hSw
            (obtain ⟨r1, c0, c1, c2, c3, c4, c5, c6⟩ := hSw; obtain ⟨p1, p2, p3, p4, p5, p6⟩ := row_facts r1)
            go_simp
            (try with_reducible rfl)
          (try simp only [Act.put, List.setIfInBounds_toArray, List.set_cons_zero, List.set_cons_succ, List.getElem_toArray, List.getElem_cons_succ, List.getElem_cons_zero])
          refine wpAnyH_take (i := 28) (oi := _) (v := ?_) rfl (by kernel_rfl) (by kernel_rfl) (by kernel_rfl) (fun _ _ _ h => h) (Or.inl ⟨by rfl, ?_⟩) (by assumption) ?_
          rotate_left
          · intro w' hSw
            (obtain ⟨r1, c0, c1, c2, c3, c4, c5, c6⟩ := hSw; obtain ⟨p1, p2, p3, p4, p5, p6⟩ := row_facts r1)
            go_simp
            (try with_reducible rfl)
          (try simp only [Act.put, List.setIfInBounds_toArray, List.set_cons_zero, List.set_cons_succ, List.getElem_toArray, List.getElem_cons_succ, List.getElem_cons_zero])
          refine wpAnyH_take (i := 29) (oi := _) (v := ?_) rfl (by kernel_rfl) (by kernel_rfl) (by kernel_rfl) (fun _ _ _ h => h) (Or.inl ⟨by rfl, ?_⟩) (by assumption) ?_
          rotate_left
          · intro w' hSw
            (obtain ⟨r1, c0, c1, c2, c3, c4, c5, c6⟩ := hSw; obtain ⟨p1, p2, p3, p4, p5, p6⟩ := row_facts r1)
            go_simp
            (try with_reducible rfl)
          (try simp only [Act.put, List.setIfInBounds_toArray, List.set_cons_zero, List.set_cons_succ, List.getElem_toArray, List.getElem_cons_succ, List.getElem_cons_zero])
          refine wpAnyH_take (i := 30) (oi := _) (v := ?_) rfl (by kernel_rfl) (by kernel_rfl) (by kernel_rfl) (fun _ _ _ h => h) (Or.inl ⟨by rfl, ?_⟩) (by assumption) ?_
          rotate_left
          · intro w' hSw
            (obtain ⟨r1, c0, c1, c2, c3, c4, c5, c6⟩ := hSw; obtain ⟨p1, p2, p3, p4, p5, p6⟩ := row_facts r1)
            go_simp
            (try with_reducible rfl)
          (try simp only [Act.put, List.setIfInBounds_toArray, List.set_cons_zero, List.set_cons_succ, List.getElem_toArray, List.getElem_cons_succ, List.getElem_cons_zero])
          refine wpAnyH_take (i := 31) (oi := _) (v := ?_) rfl (by kernel_rfl) (by kernel_rfl) (by kernel_rfl) (fun _ _ _ h => h) (Or.inl ⟨by rfl, ?_⟩) (by assumption) ?_
          rotate_left
          · intro w' hSw
            (obtain ⟨r1, c0, c1, c2, c3, c4, c5, c6⟩ := hSw; obtain ⟨p1, p2, p3, p4, p5, p6⟩ := row_facts r1)
            go_simp
            (try with_reducible rfl)
          (try simp only [Act.put, List.setIfInBounds_toArray, List.set_cons_zero, List.set_cons_succ, List.getElem_toArray, List.getElem_cons_succ, List.getElem_cons_zero])
          refine wpAnyH_take (i := 32) (oi := _) (v := undef) rfl (by kernel_rfl) (by kernel_rfl) (by kernel_rfl) (fun _ _ _ h => h) (Or.inr ⟨by rfl, rfl⟩) (by assumption) ?_
          (try simp only [Act.put, List.setIfInBounds_toArray, List.set_cons_zero, List.set_cons_succ, List.getElem_toArray, List.getElem_cons_succ, List.getElem_cons_zero])
          refine wpAnyH_take (i := 33) (oi := _) (v := undef) rfl (by kernel_rfl) (by kernel_rfl) (by kernel_rfl) (fun _ _ _ h => h) (Or.inr ⟨by rfl, rfl⟩) (by assumption) ?_
          (try simp only [Act.put, List.setIfInBounds_toArray, List.set_cons_zero, List.set_cons_succ, List.getElem_toArray, List.getElem_cons_succ, List.getElem_cons_zero])
          refine wpAnyH_take (i := 34) (oi := _) (v := undef) rfl (by kernel_rfl) (by kernel_rfl) (by kernel_rfl) (fun _ _ _ h => h) (Or.inr ⟨by rfl, rfl⟩) (by assumption) ?_
          (try simp only [Act.put, List.setIfInBounds_toArray, List.set_cons_zero, List.set_cons_succ, List.getElem_toArray, List.getElem_cons_succ, List.getElem_cons_zero])
          refine wpAnyH_take (i := 35) (oi := _) (v := undef) rfl (by kernel_rfl) (by kernel_rfl) (by kernel_rfl) (fun _ _ _ h => h) (Or.inr ⟨by rfl, rfl⟩) (by assumption) ?_
          (try simp only [Act.put, List.setIfInBounds_toArray, List.set_cons_zero, List.set_cons_succ, List.getElem_toArray, List.getElem_cons_succ, List.getElem_cons_zero])
          refine wpAnyH_take (i := 36) (oi := _) (v := undef) rfl (by kernel_rfl) (by kernel_rfl) (by kernel_rfl) (fun _ _ _ h => h) (Or.inr ⟨by rfl, rfl⟩) (by assumption) ?_
          (try simp only [Act.put, List.setIfInBounds_toArray, List.set_cons_zero, List.set_cons_succ, List.getElem_toArray, List.getElem_cons_succ, List.getElem_cons_zero])
          refine wpAnyH_take (i := 37) (oi := _) (v := undef) rfl (by kernel_rfl) (by kernel_rfl) (by kernel_rfl) (fun _ _ _ h => h) (Or.inr ⟨by rfl, rfl⟩) (by assumption) ?_
          (try simp only [Act.put, List.setIfInBounds_toArray, List.set_cons_zero, List.set_cons_succ, List.getElem_toArray, List.getElem_cons_succ, List.getElem_cons_zero])
          refine wpAnyH_take (i := 38) (oi := _) (v := ?_) rfl (by kernel_rfl) (by kernel_rfl) (by kernel_rfl) (fun _ _ _ h => h) (Or.inl ⟨by rfl, ?_⟩) (by assumption) ?_
          rotate_left
          · intro w' hSw
            (obtain ⟨r1, c0, c1, c2, c3, c4, c5, c6⟩ := hSw; obtain ⟨p1, p2, p3, p4, p5, p6⟩ := row_facts r1)
            go_simp
            (try with_reducible rfl)
          (try simp only [Act.put, List.setIfInBounds_toArray, List.set_cons_zero, List.set_cons_succ, List.getElem_toArray, List.getElem_cons_succ, List.getElem_cons_zero])
          refine wpAnyH_take (i := 39) (oi := _) (v := ?_) rfl (by kernel_rfl) (by kernel_rfl) (by kernel_rfl) (fun _ _ _ h => h) (Or.inl ⟨by rfl, ?_⟩) (by assumption) ?_
          rotate_left
          · intro w' hSw
            (obtain ⟨r1, c0, c1, c2, c3, c4, c5, c6⟩ := hSw; obtain ⟨p1, p2, p3, p4, p5, p6⟩ := row_facts r1)
            go_simp
            (try with_reducible rfl)
          (try simp only [Act.put, List.setIfInBounds_toArray, List.set_cons_zero, List.set_cons_succ, List.getElem_toArray, List.getElem_cons_succ, List.getElem_cons_zero])
          refine wpAnyH_done (by kernel_rfl) ?_ _
          refine NoPanic.normal ?_
          go_wp2_with fail
          go_roundw
          case rel => exact ⟨j + 1, by omega, by go_num, by first | (rw [hcE]; done) | (rw [hcE]; go_num), hb12.drew⟩
          case measure => simp [intOf]; omega
        · skip
          have CC := Lib.hid (contains_ids (.slice fa xs.length fc) xs d.id w10 I10.out)
          rw [decide_eq_false i3] at CC
          obtain ⟨y1, y2, y3, y4, y5, y6⟩ := row_facts F10.out
          go_wp2_with fail
          refine CC.out.mono ?_
          rintro e w11 ⟨rfl, hb11⟩
          have r11 := R10.out.run hb11
          have hb12 := below_run HB10.out hb11
          have R11 := Lib.hid r11
          replace f0 := (hb11.cell (p := ⟨b2, off2 + j * 7, none⟩) hlt10).trans f0
          replace f1 := (hb11.cell (p := ⟨b2, off2 + j * 7 + 1, none⟩) hlt10).trans f1
          replace f2 := (hb11.cell (p := ⟨b2, off2 + j * 7 + 2, none⟩) hlt10).trans f2
          replace f3 := (hb11.cell (p := ⟨b2, off2 + j * 7 + 3, none⟩) hlt10).trans f3
          replace f4 := (hb11.cell (p := ⟨b2, off2 + j * 7 + 4, none⟩) hlt10).trans f4
          replace f5 := (hb11.cell (p := ⟨b2, off2 + j * 7 + 5, none⟩) hlt10).trans f5
          replace f6 := (hb11.cell (p := ⟨b2, off2 + j * 7 + 6, none⟩) hlt10).trans f6
          clear x1 x2 x3 x4 x5 x6 y1 y2 y3 y4 y5 y6 z1 z2 z3 z4 z5 z6 hb11 CC
          clear i1 i3 i5 i6
          go_wp2_with fail
          refine wp_region_noPanic ?_
          refine wp_region_held_drew (S := (fun w' => RowAt w' g10 36 #[.int .u64 d.id, .int .i64 d.ft, .int .i64 d.ad, .string d.lb, .int .i64 d.hr, .bool d.mu, .bool d.idf] ∧ w'.cell? ⟨b2, off2 + j * 7, none⟩ = some (.int .u64 d.id) ∧ w'.cell? ⟨b2, off2 + j * 7 + 1, none⟩ = some (.int .i64 d.ft) ∧ w'.cell? ⟨b2, off2 + j * 7 + 2, none⟩ = some (.int .i64 d.ad) ∧ w'.cell? ⟨b2, off2 + j * 7 + 3, none⟩ = some (.string d.lb) ∧ w'.cell? ⟨b2, off2 + j * 7 + 4, none⟩ = some (.int .i64 d.hr) ∧ w'.cell? ⟨b2, off2 + j * 7 + 5, none⟩ = some (.bool d.mu) ∧ w'.cell? ⟨b2, off2 + j * 7 + 6, none⟩ = some (.bool d.idf))) (by kernel_rfl) ?_ (fun hHeld => ?_)
          · exact ⟨R11.out.drew, f0, f1, f2, f3, f4, f5, f6⟩
          refine wpAnyH_take (i := 0) (oi := _) (v := ?_) rfl (by kernel_rfl) (by kernel_rfl) (by kernel_rfl) (fun _ _ _ h => h) (Or.inl ⟨by rfl, ?_⟩) (by assumption) ?_
          rotate_left
          · intro w' hSw
            (obtain ⟨r1, c0, c1, c2, c3, c4, c5, c6⟩ := hSw; obtain ⟨p1, p2, p3, p4, p5, p6⟩ := row_facts r1)
            go_simp
            (try with_reducible rfl)
          (try simp only [Act.put, List.setIfInBounds_toArray, List.set_cons_zero, List.set_cons_succ, List.getElem_toArray, List.getElem_cons_zero])
          refine wpAnyH_take (i := 1) (oi := _) (v := ?_) rfl (by kernel_rfl) (by kernel_rfl) (by kernel_rfl) (fun _ _ _ h => h) (Or.inl ⟨by rfl, ?_⟩) (by assumption) ?_
          rotate_left
          · intro w' hSw
            (obtain ⟨r1, c0, c1, c2, c3, c4, c5, c6⟩ := hSw; obtain ⟨p1, p2, p3, p4, p5, p6⟩ := row_facts r1)
            go_simp
            (try with_reducible rfl)
          (try simp only [Act.put, List.setIfInBounds_toArray, List.set_cons_zero, List.set_cons_succ, List.getElem_toArray, List.getElem_cons_succ, List.getElem_cons_zero])
          refine wpAnyH_take (i := 2) (oi := _) (v := undef) rfl (by kernel_rfl) (by kernel_rfl) (by kernel_rfl) (fun _ _ _ h => h) (Or.inr ⟨by rfl, rfl⟩) (by assumption) ?_
          (try simp only [Act.put, List.setIfInBounds_toArray, List.set_cons_zero, List.set_cons_succ, List.getElem_toArray, List.getElem_cons_succ, List.getElem_cons_zero])
          refine wpAnyH_take (i := 3) (oi := _) (v := undef) rfl (by kernel_rfl) (by kernel_rfl) (by kernel_rfl) (fun _ _ _ h => h) (Or.inr ⟨by rfl, rfl⟩) (by assumption) ?_
          (try simp only [Act.put, List.setIfInBounds_toArray, List.set_cons_zero, List.set_cons_succ, List.getElem_toArray, List.getElem_cons_succ, List.getElem_cons_zero])
          refine wpAnyH_take (i := 4) (oi := _) (v := undef) rfl (by kernel_rfl) (by kernel_rfl) (by kernel_rfl) (fun _ _ _ h => h) (Or.inr ⟨by rfl, rfl⟩) (by assumption) ?_
          (try simp only [Act.put, List.setIfInBounds_toArray, List.set_cons_zero, List.set_cons_succ, List.getElem_toArray, List.getElem_cons_succ, List.getElem_cons_zero])
          refine wpAnyH_take (i := 5) (oi := _) (v := ?_) rfl (by kernel_rfl) (by kernel_rfl) (by kernel_rfl) (fun _ _ _ h => h) (Or.inl ⟨by rfl, ?_⟩) (by assumption) ?_
          rotate_left
          · intro w' hSw
            (obtain ⟨r1, c0, c1, c2, c3, c4, c5, c6⟩ := hSw; obtain ⟨p1, p2, p3, p4, p5, p6⟩ := row_facts r1)
            go_simp
            (try with_reducible rfl)
          (try simp only [Act.put, List.setIfInBounds_toArray, List.set_cons_zero, List.set_cons_succ, List.getElem_toArray, List.getElem_cons_succ, List.getElem_cons_zero])
          refine wpAnyH_take (i := 6) (oi := _) (v := ?_) rfl (by kernel_rfl) (by kernel_rfl) (by kernel_rfl) (fun _ _ _ h => h) (Or.inl ⟨by rfl, ?_⟩) (by assumption) ?_
          rotate_left
          · intro w' hSw
            (obtain ⟨r1, c0, c1, c2, c3, c4, c5, c6⟩ := hSw; obtain ⟨p1, p2, p3, p4, p5, p6⟩ := row_facts r1)
            go_simp
            (try with_reducible rfl)
          (try simp only [Act.put, List.setIfInBounds_toArray, List.set_cons_zero, List.set_cons_succ, List.getElem_toArray, List.getElem_cons_succ, List.getElem_cons_zero])
          refine wpAnyH_take (i := 7) (oi := _) (v := undef) rfl (by kernel_rfl) (by kernel_rfl) (by kernel_rfl) (fun _ _ _ h => h) (Or.inr ⟨by rfl, rfl⟩) (by assumption) ?_
          (try simp only [Act.put, List.setIfInBounds_toArray, List.set_cons_zero, List.set_cons_succ, List.getElem_toArray, List.getElem_cons_succ, List.getElem_cons_zero])
          refine wpAnyH_take (i := 8) (oi := _) (v := undef) rfl (by kernel_rfl) (by kernel_rfl) (by kernel_rfl) (fun _ _ _ h => h) (Or.inr ⟨by rfl, rfl⟩) (by assumption) ?_
          (try simp only [Act.put, List.setIfInBounds_toArray, List.set_cons_zero, List.set_cons_succ, List.getElem_toArray, List.getElem_cons_succ, List.getElem_cons_zero])
          refine wpAnyH_take (i := 9) (oi := _) (v := ?_) rfl (by kernel_rfl) (by kernel_rfl) (by kernel_rfl) (fun _ _ _ h => h) (Or.inl ⟨by rfl, ?_⟩) (by assumption) ?_
          rotate_left
          · intro w' hSw
            (obtain ⟨r1, c0, c1, c2, c3, c4, c5, c6⟩ := hSw; obtain ⟨p1, p2, p3, p4, p5, p6⟩ := row_facts r1)
            go_simp
            (try with_reducible rfl)
          (try simp only [Act.put, List.setIfInBounds_toArray, List.set_cons_zero, List.set_cons_succ, List.getElem_toArray, List.getElem_cons_succ, List.getElem_cons_zero])
          refine wpAnyH_take (i := 10) (oi := _) (v := ?_) rfl (by kernel_rfl) (by kernel_rfl) (by kernel_rfl) (fun _ _ _ h => h) (Or.inl ⟨by rfl, ?_⟩) (by assumption) ?_
          rotate_left
          · intro w' hSw
            (obtain ⟨r1, c0, c1, c2, c3, c4, c5, c6⟩ := hSw; obtain ⟨p1, p2, p3, p4, p5, p6⟩ := row_facts r1)
            go_simp
            (try with_reducible rfl)
          (try simp only [Act.put, List.setIfInBounds_toArray, List.set_cons_zero, List.set_cons_succ, List.getElem_toArray, List.getElem_cons_succ, List.getElem_cons_zero])
          refine wpAnyH_take (i := 11) (oi := _) (v := ?_) rfl (by kernel_rfl) (by kernel_rfl) (by kernel_rfl) (fun _ _ _ h => h) (Or.inl ⟨by rfl, ?_⟩) (by assumption) ?_
          rotate_left
          · intro w' hSw
            (obtain ⟨r1, c0, c1, c2, c3, c4, c5, c6⟩ := hSw; obtain ⟨p1, p2, p3, p4, p5, p6⟩ := row_facts r1)
            go_simp
            (try with_reducible rfl)
          (try simp only [Act.put, List.setIfInBounds_toArray, List.set_cons_zero, List.set_cons_succ, List.getElem_toArray, List.getElem_cons_succ, List.getElem_cons_zero])
          refine wpAnyH_take (i := 12) (oi := _) (v := ?_) rfl (by kernel_rfl) (by kernel_rfl) (by kernel_rfl) (fun _ _ _ h => h) (Or.inl ⟨by rfl, ?_⟩) (by assumption) ?_
          rotate_left
          · intro w' hSw
            (obtain ⟨r1, c0, c1, c2, c3, c4, c5, c6⟩ := hSw; obtain ⟨p1, p2, p3, p4, p5, p6⟩ := row_facts r1)
            go_simp
            (try with_reducible rfl)
          (try simp only [Act.put, List.setIfInBounds_toArray, List.set_cons_zero, List.set_cons_succ, List.getElem_toArray, List.getElem_cons_succ, List.getElem_cons_zero])
          refine wpAnyH_take (i := 13) (oi := _) (v := undef) rfl (by kernel_rfl) (by kernel_rfl) (by kernel_rfl) (fun _ _ _ h => h) (Or.inr ⟨by rfl, rfl⟩) (by assumption) ?_
          (try simp only [Act.put, List.setIfInBounds_toArray, List.set_cons_zero, List.set_cons_succ, List.getElem_toArray, List.getElem_cons_succ, List.getElem_cons_zero])
          refine wpAnyH_take (i := 14) (oi := _) (v := undef) rfl (by kernel_rfl) (by kernel_rfl) (by kernel_rfl) (fun _ _ _ h => h) (Or.inr ⟨by rfl, rfl⟩) (by assumption) ?_
          (try simp only [Act.put, List.setIfInBounds_toArray, List.set_cons_zero, List.set_cons_succ, List.getElem_toArray, List.getElem_cons_succ, List.getElem_cons_zero])
          refine wpAnyH_take (i := 15) (oi := _) (v := ?_) rfl (by kernel_rfl) (by kernel_rfl) (by kernel_rfl) (fun _ _ _ h => h) (Or.inl ⟨by rfl, ?_⟩) (by assumption) ?_
          rotate_left
          · intro w' hSw
            (obtain ⟨r1, c0, c1, c2, c3, c4, c5, c6⟩ := hSw; obtain ⟨p1, p2, p3, p4, p5, p6⟩ := row_facts r1)
            go_simp
            (try with_reducible rfl)
          (try simp only [Act.put, List.setIfInBounds_toArray, List.set_cons_zero, List.set_cons_succ, List.getElem_toArray, List.getElem_cons_succ, List.getElem_cons_zero])
          refine wpAnyH_take (i := 16) (oi := _) (v := ?_) rfl (by kernel_rfl) (by kernel_rfl) (by kernel_rfl) (fun _ _ _ h => h) (Or.inl ⟨by rfl, ?_⟩) (by assumption) ?_
          rotate_left
          · intro w' hSw
            (obtain ⟨r1, c0, c1, c2, c3, c4, c5, c6⟩ := hSw; obtain ⟨p1, p2, p3, p4, p5, p6⟩ := row_facts r1)
            go_simp
            (try with_reducible rfl)
          (try simp only [Act.put, List.setIfInBounds_toArray, List.set_cons_zero, List.set_cons_succ, List.getElem_toArray, List.getElem_cons_succ, List.getElem_cons_zero])
          refine wpAnyH_take (i := 17) (oi := _) (v := ?_) rfl (by kernel_rfl) (by kernel_rfl) (by kernel_rfl) (fun _ _ _ h => h) (Or.inl ⟨by rfl, ?_⟩) (by assumption) ?_
          rotate_left
          · intro w' hSw
            (obtain ⟨r1, c0, c1, c2, c3, c4, c5, c6⟩ := hSw; obtain ⟨p1, p2, p3, p4, p5, p6⟩ := row_facts r1)
            go_simp
            (try with_reducible rfl)
          (try simp only [Act.put, List.setIfInBounds_toArray, List.set_cons_zero, List.set_cons_succ, List.getElem_toArray, List.getElem_cons_succ, List.getElem_cons_zero])
          refine wpAnyH_take (i := 18) (oi := _) (v := ?_) rfl (by kernel_rfl) (by kernel_rfl) (by kernel_rfl) (fun _ _ _ h => h) (Or.inl ⟨by rfl, ?_⟩) (by assumption) ?_
          rotate_left
          · intro w' hSw
            (obtain ⟨r1, c0, c1, c2, c3, c4, c5, c6⟩ := hSw; obtain ⟨p1, p2, p3, p4, p5, p6⟩ := row_facts r1)
            go_simp
            (try with_reducible rfl)
          (try simp only [Act.put, List.setIfInBounds_toArray, List.set_cons_zero, List.set_cons_succ, List.getElem_toArray, List.getElem_cons_succ, List.getElem_cons_zero])
          refine wpAnyH_take (i := 19) (oi := _) (v := ?_) rfl (by kernel_rfl) (by kernel_rfl) (by kernel_rfl) (fun _ _ _ h => h) (Or.inl ⟨by rfl, ?_⟩) (by assumption) ?_
          rotate_left
          · intro w' hSw
            (obtain ⟨r1, c0, c1, c2, c3, c4, c5, c6⟩ := hSw; obtain ⟨p1, p2, p3, p4, p5, p6⟩ := row_facts r1)
            go_simp
            (try with_reducible rfl)
          (try simp only [Act.put, List.setIfInBounds_toArray, List.set_cons_zero, List.set_cons_succ, List.getElem_toArray, List.getElem_cons_succ, List.getElem_cons_zero])
          refine wpAnyH_take (i := 20) (oi := _) (v := ?_) rfl (by kernel_rfl) (by kernel_rfl) (by kernel_rfl) (fun _ _ _ h => h) (Or.inl ⟨by rfl, ?_⟩) (by assumption) ?_
          rotate_left
          · intro w' hSw
            (obtain ⟨r1, c0, c1, c2, c3, c4, c5, c6⟩ := hSw; obtain ⟨p1, p2, p3, p4, p5, p6⟩ := row_facts r1)
            go_simp
            (try with_reducible rfl)
          (try simp only [Act.put, List.setIfInBounds_toArray, List.set_cons_zero, List.set_cons_succ, List.getElem_toArray, List.getElem_cons_succ, List.getElem_cons_zero])
          refine wpAnyH_take (i := 21) (oi := _) (v := ?_) rfl (by kernel_rfl) (by kernel_rfl) (by kernel_rfl) (fun _ _ _ h => h) (Or.inl ⟨by rfl, ?_⟩) (by assumption) ?_
          rotate_left
          · intro w' hSw
            (obtain ⟨r1, c0, c1, c2, c3, c4, c5, c6⟩ := hSw; obtain ⟨p1, p2, p3, p4, p5, p6⟩ := row_facts r1)
            go_simp
            (try with_reducible rfl)
          (try simp only [Act.put, List.setIfInBounds_toArray, List.set_cons_zero, List.set_cons_succ, List.getElem_toArray, List.getElem_cons_succ, List.getElem_cons_zero])
          refine wpAnyH_take (i := 22) (oi := _) (v := ?_) rfl (by kernel_rfl) (by kernel_rfl) (by kernel_rfl) (fun _ _ _ h => h) (Or.inl ⟨by rfl, ?_⟩) (by assumption) ?_
          rotate_left
          · intro w' hSw
            (obtain ⟨r1, c0, c1, c2, c3, c4, c5, c6⟩ := hSw; obtain ⟨p1, p2, p3, p4, p5, p6⟩ := row_facts r1)
            go_simp
            (try with_reducible rfl)
          (try simp only [Act.put, List.setIfInBounds_toArray, List.set_cons_zero, List.set_cons_succ, List.getElem_toArray, List.getElem_cons_succ, List.getElem_cons_zero])
          refine wpAnyH_take (i := 23) (oi := _) (v := ?_) rfl (by kernel_rfl) (by kernel_rfl) (by kernel_rfl) (fun _ _ _ h => h) (Or.inl ⟨by rfl, ?_⟩) (by assumption) ?_
          rotate_left
          · intro w' hSw
            (obtain ⟨r1, c0, c1, c2, c3, c4, c5, c6⟩ := hSw; obtain ⟨p1, p2, p3, p4, p5, p6⟩ := row_facts r1)
            go_simp
            (try with_reducible rfl)
          (try simp only [Act.put, List.setIfInBounds_toArray, List.set_cons_zero, List.set_cons_succ, List.getElem_toArray, List.getElem_cons_succ, List.getElem_cons_zero])
          refine wpAnyH_take (i := 24) (oi := _) (v := ?_) rfl (by kernel_rfl) (by kernel_rfl) (by kernel_rfl) (fun _ _ _ h => h) (Or.inl ⟨by rfl, ?_⟩) (by assumption) ?_
          rotate_left
          · intro w' hSw
            (obtain ⟨r1, c0, c1, c2, c3, c4, c5, c6⟩ := hSw; obtain ⟨p1, p2, p3, p4, p5, p6⟩ := row_facts r1)
            go_simp
            (try with_reducible rfl)
          (try simp only [Act.put, List.setIfInBounds_toArray, List.set_cons_zero, List.set_cons_succ, List.getElem_toArray, List.getElem_cons_succ, List.getElem_cons_zero])
          refine wpAnyH_take (i := 25) (oi := _) (v := ?_) rfl (by kernel_rfl) (by kernel_rfl) (by kernel_rfl) (fun _ _ _ h => h) (Or.inl ⟨by rfl, ?_⟩) (by assumption) ?_
          rotate_left
          · intro w' hSw
            (obtain ⟨r1, c0, c1, c2, c3, c4, c5, c6⟩ := hSw; obtain ⟨p1, p2, p3, p4, p5, p6⟩ := row_facts r1)
            go_simp
            (try with_reducible rfl)
          (try simp only [Act.put, List.setIfInBounds_toArray, List.set_cons_zero, List.set_cons_succ, List.getElem_toArray, List.getElem_cons_succ, List.getElem_cons_zero])
          refine wpAnyH_take (i := 26) (oi := _) (v := ?_) rfl (by kernel_rfl) (by kernel_rfl) (by kernel_rfl) (fun _ _ _ h => h) (Or.inl ⟨by rfl, ?_⟩) (by assumption) ?_
          rotate_left
          · intro w' hSw
            (obtain ⟨r1, c0, c1, c2, c3, c4, c5, c6⟩ := hSw; obtain ⟨p1, p2, p3, p4, p5, p6⟩ := row_facts r1)
            go_simp
            (try with_reducible rfl)
          (try simp only [Act.put, List.setIfInBounds_toArray, List.set_cons_zero, List.set_cons_succ, List.getElem_toArray, List.getElem_cons_succ, List.getElem_cons_zero])
          refine wpAnyH_take (i := 27) (oi := _) (v := ?_) rfl (by kernel_rfl) (by kernel_rfl) (by kernel_rfl) (fun _ _ _ h => h) (Or.inl ⟨by rfl, ?_⟩) (by assumption) ?_
          rotate_left
          · intro w' hSw
            (obtain ⟨r1, c0, c1, c2, c3, c4, c5, c6⟩ := hSw; obtain ⟨p1, p2, p3, p4, p5, p6⟩ := row_facts r1)
            go_simp
            (try with_reducible rfl)
          (try simp only [Act.put, List.setIfInBounds_toArray, List.set_cons_zero, List.set_cons_succ, List.getElem_toArray, List.getElem_cons_succ, List.getElem_cons_zero])
          refine wpAnyH_take (i := 28) (oi := _) (v := ?_) rfl (by kernel_rfl) (by kernel_rfl) (by kernel_rfl) (fun _ _ _ h => h) (Or.inl ⟨by rfl, ?_⟩) (by assumption) ?_
          rotate_left
          · intro w' hSw
            (obtain ⟨r1, c0, c1, c2, c3, c4, c5, c6⟩ := hSw; obtain ⟨p1, p2, p3, p4, p5, p6⟩ := row_facts r1)
            go_simp
            (try with_reducible rfl)
          (try simp only [Act.put, List.setIfInBounds_toArray, List.set_cons_zero, List.set_cons_succ, List.getElem_toArray, List.getElem_cons_succ, List.getElem_cons_zero])
          refine wpAnyH_take (i := 29) (oi := _) (v := ?_) rfl (by kernel_rfl) (by kernel_rfl) (by kernel_rfl) (fun _ _ _ h => h) (Or.inl ⟨by rfl, ?_⟩) (by assumption) ?_
          rotate_left
          · intro w' hSw
            (obtain ⟨r1, c0, c1, c2, c3, c4, c5, c6⟩ := hSw; obtain ⟨p1, p2, p3, p4, p5, p6⟩ := row_facts r1)
            go_simp
            (try with_reducible rfl)
          (try simp only [Act.put, List.setIfInBounds_toArray, List.set_cons_zero, List.set_cons_succ, List.getElem_toArray, List.getElem_cons_succ, List.getElem_cons_zero])
          refine wpAnyH_take (i := 30) (oi := _) (v := ?_) rfl (by kernel_rfl) (by kernel_rfl) (by kernel_rfl) (fun _ _ _ h => h) (Or.inl ⟨by rfl, ?_⟩) (by assumption) ?_
          rotate_left
          · intro w' hSw
            (obtain ⟨r1, c0, c1, c2, c3, c4, c5, c6⟩ := hSw; obtain ⟨p1, p2, p3, p4, p5, p6⟩ := row_facts r1)
            go_simp
            (try with_reducible rfl)
          (try simp only [Act.put, List.setIfInBounds_toArray, List.set_cons_zero, List.set_cons_succ, List.getElem_toArray, List.getElem_cons_succ, List.getElem_cons_zero])
          refine wpAnyH_take (i := 31) (oi := _) (v := ?_) rfl (by kernel_rfl) (by kernel_rfl) (by kernel_rfl) (fun _ _ _ h => h) (Or.inl ⟨by rfl, ?_⟩) (by assumption) ?_
          rotate_left
          · intro w' hSw
            (obtain ⟨r1, c0, c1, c2, c3, c4, c5, c6⟩ := hSw; obtain ⟨p1, p2, p3, p4, p5, p6⟩ := row_facts r1)
            go_simp
            (try with_reducible rfl)
          (try simp only [Act.put, List.setIfInBounds_toArray, List.set_cons_zero, List.set_cons_succ, List.getElem_toArray, List.getElem_cons_succ, List.getElem_cons_zero])
          refine wpAnyH_take (i := 32) (oi := _) (v := undef) rfl (by kernel_rfl) (by kernel_rfl) (by kernel_rfl) (fun _ _ _ h => h) (Or.inr ⟨by rfl, rfl⟩) (by assumption) ?_
          (try simp only [Act.put, List.setIfInBounds_toArray, List.set_cons_zero, List.set_cons_succ, List.getElem_toArray, List.getElem_cons_succ, List.getElem_cons_zero])
          refine wpAnyH_take (i := 33) (oi := _) (v := undef) rfl (by kernel_rfl) (by kernel_rfl) (by kernel_rfl) (fun _ _ _ h => h) (Or.inr ⟨by rfl, rfl⟩) (by assumption) ?_
          (try simp only [Act.put, List.setIfInBounds_toArray, List.set_cons_zero, List.set_cons_succ, List.getElem_toArray, List.getElem_cons_succ, List.getElem_cons_zero])
          refine wpAnyH_take (i := 34) (oi := _) (v := undef) rfl (by kernel_rfl) (by kernel_rfl) (by kernel_rfl) (fun _ _ _ h => h) (Or.inr ⟨by rfl, rfl⟩) (by assumption) ?_
          (try simp only [Act.put, List.setIfInBounds_toArray, List.set_cons_zero, List.set_cons_succ, List.getElem_toArray, List.getElem_cons_succ, List.getElem_cons_zero])
          refine wpAnyH_take (i := 35) (oi := _) (v := undef) rfl (by kernel_rfl) (by kernel_rfl) (by kernel_rfl) (fun _ _ _ h => h) (Or.inr ⟨by rfl, rfl⟩) (by assumption) ?_
          (try simp only [Act.put, List.setIfInBounds_toArray, List.set_cons_zero, List.set_cons_succ, List.getElem_toArray, List.getElem_cons_succ, List.getElem_cons_zero])
          refine wpAnyH_take (i := 36) (oi := _) (v := undef) rfl (by kernel_rfl) (by kernel_rfl) (by kernel_rfl) (fun _ _ _ h => h) (Or.inr ⟨by rfl, rfl⟩) (by assumption) ?_
          (try simp only [Act.put, List.setIfInBounds_toArray, List.set_cons_zero, List.set_cons_succ, List.getElem_toArray, List.getElem_cons_succ, List.getElem_cons_zero])
          refine wpAnyH_take (i := 37) (oi := _) (v := undef) rfl (by kernel_rfl) (by kernel_rfl) (by kernel_rfl) (fun _ _ _ h => h) (Or.inr ⟨by rfl, rfl⟩) (by assumption) ?_
          (try simp only [Act.put, List.setIfInBounds_toArray, List.set_cons_zero, List.set_cons_succ, List.getElem_toArray, List.getElem_cons_succ, List.getElem_cons_zero])
          refine wpAnyH_take (i := 38) (oi := _) (v := ?_) rfl (by kernel_rfl) (by kernel_rfl) (by kernel_rfl) (fun _ _ _ h => h) (Or.inl ⟨by rfl, ?_⟩) (by assumption) ?_
          rotate_left
          · intro w' hSw
            (obtain ⟨r1, c0, c1, c2, c3, c4, c5, c6⟩ := hSw; obtain ⟨p1, p2, p3, p4, p5, p6⟩ := row_facts r1)
            go_simp
            (try with_reducible rfl)
          (try simp only [Act.put, List.setIfInBounds_toArray, List.set_cons_zero, List.set_cons_succ, List.getElem_toArray, List.getElem_cons_succ, List.getElem_cons_zero])
          refine wpAnyH_take (i := 39) (oi := _) (v := ?_) rfl (by kernel_rfl) (by kernel_rfl) (by kernel_rfl) (fun _ _ _ h => h) (Or.inl ⟨by rfl, ?_⟩) (by assumption) ?_
          rotate_left
          · intro w' hSw
            (obtain ⟨r1, c0, c1, c2, c3, c4, c5, c6⟩ := hSw; obtain ⟨p1, p2, p3, p4, p5, p6⟩ := row_facts r1)
            go_simp
            (try with_reducible rfl)
          (try simp only [Act.put, List.setIfInBounds_toArray, List.set_cons_zero, List.set_cons_succ, List.getElem_toArray, List.getElem_cons_succ, List.getElem_cons_zero])
          refine wpAnyH_done (by kernel_rfl) ?_ _
          refine NoPanic.normal ?_
          go_wp2_with fail
          go_roundw
          case rel => exact ⟨j + 1, by omega, by go_num, by first | (rw [hcE]; done) | (rw [hcE]; go_num), hb12.drew⟩
          case measure => simp [intOf]; omega
    · obtain rfl : j = l.length := by omega
      rw [List.take_length, HCNT.out]
      have rF := RF.out.run hbr
      obtain ⟨y1, y2, y3, y4, y5, y6⟩ := row_facts rF
      have hx8 : (xs.length : Int) ≤ 8 := by have := HW.out.few; omega
      have z3 : ((xs.length : Int) == (xs.length : Int)) = true := by simp
      have KBR := Lib.hid (below_run KB.out hbr)
      clear rF
      go_wp2_with fail
      refine (awake48_any _).mono ?_
      rintro e w9 ⟨rfl, hb9⟩
      go_wp2
      go_ret
      exact ⟨rfl, below_run KBR.out hb9⟩
end Go.Proofs.Ytiemdccjphdbmaa
