/-
  A request is sent once with fault 2.
  A request is sent once with fault 3.
  A request is sent once with fault 4.
  A request is sent once, whatever the faults are.
-/
import Derived.Test.YtpkhcehddfmhpaaGreatMi
import Derived.Test.YtpkhcehddfmhpaaGreatMj1
namespace Go.Proofs.YtpkhcehddfmhpaaGreat
open Go.RowKit Go.Shelf

attribute [local go_sem] Oper.semAt_some

set_option maxHeartbeats 8000000 in
set_option maxRecDepth 100000 in
theorem send_f2 (s : Nat) (x : Mgr) (dst kind par : Int) (dat : ByteArray) (y : Wre) (dv fv lv : Value) (w : World) (h : RowAt w s 85 (sesA x dv fv lv)) (hw : WireT w dv fv lv y) (rest : List Int) (hf : y.faults = 2 :: rest) (hfl : rest.length ≤ 5000)
    (hd : devsE y.devs = 0) (hm : chk (ofM x ⟨dst, kind, par, dat⟩) = 0) (q0 : 0 ≤ x.seq) (q1 : x.seq ≤ 255) (hl : y.late.length ≤ 64) (hs : ∀ t ∈ y.late, t.size ≤ 4096) :
    Calls Tryz.prog 68 #[.pointer (some ⟨s, 0, none⟩), .agg #[.int .u64 dst, .int .i64 kind, .int .i64 par, .string dat]] w (SendPost s x ⟨dst, kind, par, dat⟩ y w) := by
  obtain ⟨devs, faults, late⟩ := y
  obtain ⟨id, seq, tries⟩ := x
  dsimp only at hf hd hl hs q0 q1
  subst hf
  obtain ⟨fb, fo, fk, rfl, hfb, hfc⟩ : ∃ fb fo fk, fv = .slice (some ⟨fb, fo, none⟩) (rest.length + 1) fk ∧ fb < w.heap.size ∧ ∀ j, j < (rest.length + 1) * 1 → w.cell? ⟨fb, fo + j, none⟩ = i64C (2 :: rest) j := by
    rcases hw.faults with ⟨e0, _⟩ | ⟨_, _, fb, fo, fk, e, hlt, hc⟩
    · simp at e0
    · exact ⟨fb, fo, fk, by simpa using e, hlt, by simpa using hc⟩
  obtain ⟨da, dc, rfl⟩ : ∃ da dc, dv = .slice da devs.length dc := seq_shape hw.devs
  obtain ⟨la, lc, rfl⟩ : ∃ la lc, lv = .slice la late.length lc := seq_shape hw.late
  obtain ⟨W0, hW0⟩ : ∃ W0, w.alloc (.cells #[.int .u64 dst, .int .i64 kind, .int .i64 par, .string dat] 33 (0, 0)) = W0 := ⟨_, rfl⟩
  have hr0 : RowAt W0 s 85 (sesA ⟨id, seq, tries⟩ (.slice da devs.length dc) (.slice (some ⟨fb, fo, none⟩) (rest.length + 1) fk) (.slice la late.length lc)) := hW0 ▸ h.alloc _
  have hq0 : RowAt W0 w.heap.size 33 #[.int .u64 dst, .int .i64 kind, .int .i64 par, .string dat] := hW0 ▸ RowAt.new w _ _
  have hu0 : Below w.heap.size w W0 := hW0 ▸ (Below.refl _ _).alloc (Nat.le_refl _) _
  have hw0 := hw.run hu0
  have g0 : W0.cell? ⟨fb, fo, none⟩ = some (.int .i64 2) := (hu0.cell (p := ⟨fb, fo, none⟩) hfb).trans (hfc 0 (by omega))
  have hfk : rest.length + 1 ≤ fk := hw.room _ _ _ rfl
  have hnil : NilOne (.slice la late.length lc) := hw.nil
  have CL := Lib.hid (clone_ints (.slice (some ⟨fb, fo + 1, none⟩) rest.length (fk - 1)) rest W0 (ints_tail hu0 hfb hfc hfl) (by omega))
  have hlen0 : (0 : Int) < (rest.length : Int) + 1 := by omega
  have hlen1 : (rest.length : Int) ≤ 5000 := by omega
  obtain ⟨x1, x2, x3, x4, x5, x6⟩ := row_facts hr0
  have c4 := cell_fact hr0 4
  simp only [sesA] at c4
  have HR0 := Lib.hid hr0
  have HQ0 := Lib.hid hq0
  have HU0 := Lib.hid hu0
  have HW0 := Lib.hid hw0
  have HNIL := Lib.hid hnil
  have hs0 : s < w.heap.size := lt_of_block h
  clear x1 h hw hr0 hq0 hu0 hw0 hnil hfc
  refine (callsIn_wide (n := 3)).1 (callsIn_of_wp_marks Tryz.func68 rfl trivial ?_ rfl)
  refine wpIn_wide.2 ?_
  simp only [Tryz.ntmps68, List.size_toArray, List.length_cons, List.length_nil, Nat.reduceAdd, Nat.reduceSub, Array.replicate_succ, Array.replicate_zero, List.push_toArray, List.append_toArray, List.nil_append, List.cons_append]
  have HFK := Lib.hid hfk
  clear hfk
  go_wp2_with fail
  all_goals
    have hfk := HFK.out
    first
    | refine (CL.out).mono ?_
    | refine (clone_ints _ rest W0 (.inl ⟨by omega, _, _, by rw [show rest.length = 0 from by omega]⟩) (by omega)).mono ?_
    rintro e w1 ⟨fv1, rfl, hfo, hb1⟩
    have hfi := own_ints hfo rfl (by omega)
    obtain ⟨fa, fc, rfl⟩ := seq_shape hfi
    have hra := HR0.out.run hb1
    have hu01 : Upd s w w1 := upd_below (upd_below (upd_refl s w) HU0.out) hb1
    clear x2 x3 x4 x5 x6 c4 g0 hW0
    obtain ⟨x1, x2, x3, x4, x5, x6⟩ := row_facts hra
    have c4 := cell_fact hra 4
    simp only [sesA] at c4
    clear x1
    obtain ⟨W1, hW1⟩ : ∃ W1, w1.setCell ⟨s, 4, none⟩ (.slice fa rest.length fc) = W1 := ⟨_, rfl⟩
    have hu11 : Upd s w1 W1 := hW1 ▸ upd_set (upd_refl s w1) 4 _
    have hr1 : RowAt W1 s 85 (sesA ⟨id, seq, tries⟩ (.slice da devs.length dc) (.slice fa rest.length fc) (.slice la late.length lc)) := hW1 ▸ RowAt.set hra rfl
    have hq1 : RowAt W1 w.heap.size 33 #[.int .u64 dst, .int .i64 kind, .int .i64 par, .string dat] := (HQ0.out.run hb1).upd hu11 (by omega)
    have hu1 : Upd s w W1 := upd_upd hu01 hu11
    have hw0 := HW0.out.run hb1
    have hwa : WireT w1 (.slice da devs.length dc) (.slice fa rest.length fc) (.slice la late.length lc) ⟨devs, rest, late⟩ := ⟨hw0.devs, hfi, hw0.late, hw0.td, typed_own hfo, hw0.tl, hw0.nil, room_own hfo⟩
    have hw1 := WireT.upd hwa hra hu11
    clear hwa hw0 hu01 hra hfi hfo hb1 hfk CL
    go_wp2_with fail
    clear x2 x3 x4 x5 x6 c4
    obtain ⟨x1, x2, x3, x4, x5, x6⟩ := row_facts hr1
    obtain ⟨y1, y2, y3, y4, y5, y6⟩ := row_facts hq1
    have c0 := cell_fact hr1 0
    have c1 := cell_fact hr1 1
    have c2 := cell_fact hr1 2
    have c3 := cell_fact hr1 3
    have c4 := cell_fact hr1 4
    have c5 := cell_fact hr1 5
    simp only [sesA] at c0 c1 c2 c3 c4 c5
    have d0 := cell_fact hq1 0
    have d1 := cell_fact hq1 1
    have d2 := cell_fact hq1 2
    have d3 := cell_fact hq1 3
    have HM := Lib.hid hm
    have HDV := Lib.hid hd
    have HR1 := Lib.hid hr1
    have HQ1 := Lib.hid hq1
    have HU1 := Lib.hid hu1
    have HW1 := Lib.hid hw1
    obtain ⟨r1, r2, r3⟩ := bus_right2 hd hm
    have C := Lib.hid (fun W => bus2_any (.slice da devs.length dc) devs dst id seq kind par dat W)
    simp only [ofM] at r1 r2 r3
    rw [r1, r2, r3] at C
    clear x1 y1 hm hd hr1 hq1 hu1 hw1 r1 r2 r3
    go_region_held3 (fun w' => w'.cell? ⟨s, 0, none⟩ = some (.int .u64 id) ∧ w'.cell? ⟨s, 1, none⟩ = some (.int .i64 seq) ∧ w'.cell? ⟨s, 2, none⟩ = some (.int .i64 tries) ∧ w'.cell? ⟨s, 3, none⟩ = some (.slice da devs.length dc) ∧ w'.cell? ⟨w.heap.size, 0, none⟩ = some (.int .u64 dst) ∧ w'.cell? ⟨w.heap.size, 1, none⟩ = some (.int .i64 kind) ∧ w'.cell? ⟨w.heap.size, 2, none⟩ = some (.int .i64 par) ∧ w'.cell? ⟨w.heap.size, 3, none⟩ = some (.string dat)) (first | go_keep | (refine ⟨?_, ?_, ?_, ?_, ?_, ?_, ?_, ?_⟩ <;> exact cell_run hba (by assumption)) | (refine ⟨?_, ?_, ?_, ?_, ?_, ?_, ?_, ?_⟩ <;> exact cell_run hb3 (cell_run (w := W1.drew) hba (by assumption))))
      (first | (go_at_call 67; refine (mof_any _ _ _ _ _ _ _ _).mono ?_; rintro e wa ⟨rfl, hba⟩; skip) | (go_at_call 88; refine (C.out _ (by exact DevsAt.below (w := W1.drew) HW1.out.devs hba)).mono ?_; rintro e w3 ⟨v1, v2, rfl, hd3, ha3, hb3, ht3⟩; skip))
    clear c0 c1 c2 c3 c4 c5 d0 d1 d2 d3 x2 x3 x4 x5 x6 y2 y3 y4 y5 y6 C
    obtain ⟨a1, k1, rfl⟩ := seq_shape hd3
    obtain ⟨a2, k2, rfl⟩ := seq_shape ha3
    have hb13 : Below W1.heap.size W1 w3 := Below.trans (show Below W1.heap.size W1 wa from ⟨hba.os, hba.tape, hba.output, hba.size, hba.block⟩) (hb3.mono hba.size)
    have HR3 : RowAt w3 s 85 _ := HR1.out.run hb13
    obtain ⟨W4, hW4⟩ : ∃ W4, w3.setCell ⟨s, 3, none⟩ (.slice a1 (sentD devs ⟨dst, id, seq, kind, par, dat⟩).length k1) = W4 := ⟨_, rfl⟩
    have hU34 : Upd s w3 W4 := hW4 ▸ upd_set (upd_refl s w3) 3 _
    have HU4 := Lib.hid (upd_upd (upd_below (upd_below (upd_drew HU1.out) hba) hb3) hU34)
    have hT3 : WireT w3 (.slice a1 (sentD devs ⟨dst, id, seq, kind, par, dat⟩).length k1) (.slice fa rest.length fc) (.slice la late.length lc) ⟨sentD devs ⟨dst, id, seq, kind, par, dat⟩, rest, late⟩ :=
      ⟨hd3, (HW1.out.run hb13).faults, (HW1.out.run hb13).late, ht3, (HW1.out.run hb13).tf, (HW1.out.run hb13).tl, HW1.out.nil, HW1.out.room⟩
    have HT4 := Lib.hid (WireT.upd hT3 HR3 hU34)
    have HR4 : RowAt W4 s 85 (sesA ⟨id, seq, tries⟩ (.slice a1 (sentD devs ⟨dst, id, seq, kind, par, dat⟩).length k1) (.slice fa rest.length fc) (.slice la late.length lc)) := hW4 ▸ RowAt.set HR3 rfl
    obtain ⟨x1, x2, x3, x4, x5, x6⟩ := row_facts HR3
    have c3 := cell_fact HR3 3
    simp only [sesA] at c3
    have hA1 : (sentA devs ⟨dst, id, seq, kind, par, dat⟩).length ≤ 64 := Nat.le_trans (sentA_length _ _) (devs_few2 HDV.out).1
    have hAc := fun a ha => (sent_answers (devs_few2 HDV.out).2 HM.out a ha).1
    obtain ⟨A, hA⟩ : ∃ A, sentA devs ⟨dst, id, seq, kind, par, dat⟩ = A := ⟨_, rfl⟩
    simp only [ofM] at hAc
    rw [hA] at ha3 hA1 hAc ⊢
    have hA0 : (A.length : Int) ≤ 64 := by omega
    have HA3 := Lib.hid (msgs_upd ha3 HR3 hU34)
    have HR4h := Lib.hid HR4
    have HAC := Lib.hid hAc
    have HA := Lib.hid hA
    have hlt4 : s < W4.heap.size := lt_of_block HR4
    obtain ⟨i0, hi, hz0, hz1, hz2⟩ := info_parts Tryz.info_strH
    clear hba hb3 hd3 ha3 ht3 hb13 hU34 hT3 HR3 HR4 x1 hAc hA
    go_wp2_with fail
    clear c3 x2 x3 x4 x5 x6 hW4
    go_loopw [6, 69] (fun vt i wr => ∃ k : Nat, k ≤ A.length ∧ i = .int .i64 k ∧ wr.ownsRow W4.heap.size 9 1 vt k (strsV ((A.map txtM).take k)) ∧ Below W4.heap.size W4 wr) (fun _ i _ => A.length - (intOf i).toNat)
    case atStart => exact ⟨0, Nat.zero_le _, rfl, World.ownsRow_nil _ _ _ _, Below.refl _ _⟩
    case round =>
      obtain ⟨k, hk, rfl, hown, hb0⟩ := hrel
      by_cases hlt2 : k < A.length
      · have hlt3 : (k : Int) < (A.length : Int) := by omega
        have hw1 : ∃ b off cap, Value.slice a2 A.length k2 = .slice (some ⟨b, off, none⟩) A.length cap ∧ ∀ j, j < A.length * 6 → wr.cell? ⟨b, off + j, none⟩ = msgsC A j := by
          rcases HA3.out with ⟨e0, _⟩ | ⟨_, _, b, off, cap, e, hlt, hc⟩
          · omega
          · exact ⟨b, off, cap, e, fun j hj => (hb0.cell (p := ⟨b, off + j, none⟩) hlt).trans (hc j hj)⟩
        obtain ⟨b, off, cap, e, hw1⟩ := hw1
        cases e
        obtain ⟨a, ha, e0, e1, e2, e3, e4, e5⟩ := msg_cells hw1 k hlt2
        have hca := HAC.out a (List.mem_of_getElem? ha)
        have C : Hid (∀ W, Calls Tryz.prog 13 #[.agg #[.int .u64 a.dst, .int .u64 a.src, .int .i64 a.seq, .int .i64 a.kind, .int .i64 a.par, .string a.dat]] W fun e w' => e = .returned (.tuple #[.string (txtM a), .int .i64 0]) ∧ Below W.heap.size W w') := fun W => (enc_any a.dst a.src a.seq a.kind a.par a.dat W).mono fun e w' ⟨s, n, he, hh, hb⟩ => by
          have := hh.out
          rw [encM, if_neg (not_not_intro hca)] at this
          cases this
          exact ⟨he, hb⟩
        have hT : strsV ((A.map txtM).take (k + 1)) = strsV ((A.map txtM).take k) ++ [.string (txtM a)] := by
          rw [take_succ_some (show (A.map txtM)[k]? = some (txtM a) from by simp [ha])]
          simp [strsV]
        have HT := Lib.hid hT
        obtain ⟨t, ht⟩ : ∃ t, txtM a = t := ⟨_, rfl⟩
        rw [ht] at C HT
        clear hw1 hca ha hT ht
        go_wp2_with fail
        refine (C.out _).mono ?_
        rintro e w1 ⟨rfl, hb1⟩
        have hb1' : Below wr.heap.size wr w1 := below_run ((Below.refl _ _).alloc (Nat.le_refl _) _) hb1
        have own1 := own_run hown hb1'
        have hbw := below_run hb0 hb1'
        have hz1' := hbw.size
        clear hown hb0 hb1 hb1' e0 e1 e2 e3 e4 e5
        go_wp2_with (at_builtin; refine wpList_append_own _ rfl (.tmp 78) (.tmp 80) 27 rfl W4.heap.size 9 i0 _ 1 16 Tryz.underlying27 hi hz0 hz1 hz2 rfl (by decide) _ _ _ rfl (own1.alloc _) ⟨w1.heap.size, 0, none⟩ 1 1 [.string t] rfl rfl ?c1 ?c2 ?c3 ?c4 ?c5 ?_)
        case c1 =>
          intro j u hj
          match j, hj with
          | 0, hj =>
            simp at hj
            subst hj
            have hr0 : RowAt (w1.alloc (.cells #[.string t] 9)) w1.heap.size 9 #[.string t] := RowAt.new _ _ _
            exact (row_facts hr0).1 0
        case c2 => intro u hu; simp at hu; subst hu; rfl
        case c3 => unfold maxLen; omega
        case c4 => omega
        case c5 => simp; omega
        · intro v' w4 hown1 hgrow _
          have hb4 := below_grown (hbw.alloc (by omega) _) (own1.alloc _) (by omega) hgrow (by simp; omega)
          clear own1 hgrow hbw
          go_wp2
          go_roundw
          case rel =>
            refine ⟨k + 1, by omega, by go_num, ?_, hb4⟩
            rw [HT.out]
            exact hown1
          case measure => simp [intOf]; omega
      · obtain rfl : k = A.length := by omega
        rw [List.take_of_length_le (by simp)] at hown
        go_wp2_with fail
        refine (faults_any wr).mono ?_
        rintro e w5 ⟨rfl, hb5⟩
        have hown5 := own_run hown hb5
        have hb45 : Below W4.heap.size W4 w5 := hb0.trans (hb5.mono hb0.size)
        obtain ⟨ta, tn, tc, rfl⟩ : ∃ ta tn tc, u6 = .slice ta tn tc := by
          rcases hown.2 with ⟨rfl, _⟩ | ⟨g, cap, cur, rfl, _⟩ <;> exact ⟨_, _, _, rfl⟩
        clear hown hb0 hb5
        have HR5 := HR4h.out.run hb45
        have HST := Lib.hid (strs_of hown5 (by simp) (by omega))
        have HNL := Lib.hid (nilone_own hown5)
        obtain ⟨x1, x2, x3, x4, x5, x6⟩ := row_facts HR5
        have c5 := cell_fact HR5 5
        simp only [sesA] at c5
        obtain ⟨W6, hW6⟩ : ∃ W6, w5.alloc (.cells #[.slice la late.length lc, .slice none 0 0] 27) = W6 := ⟨_, rfl⟩
        have HQ6 : RowAt W6 w5.heap.size 27 #[.slice la late.length lc, .slice none 0 0] := hW6 ▸ RowAt.new _ _ _
        have hb56 : Below w5.heap.size w5 W6 := hW6 ▸ (Below.refl _ _).alloc (Nat.le_refl _) _
        have hb46 : Below W4.heap.size W4 W6 := hb45.trans (hb56.mono hb45.size)
        have CC := Lib.hid (concat_two w5.heap.size la none late.length lc 0 0 late [] W6 HQ6 (HT4.out.late.runM hb46) (.inl ⟨rfl, _, _, rfl⟩) HT4.out.nil nilone_nil (by omega) (by simp))
        have HB46 := Lib.hid hb46
        clear hown5 HR5 x1 HQ6 hb56 hb45 hb46
        have qi := fault_at2
        go_wp2_with fail
        refine (fault3_any _ _).mono ?_
        rintro e w5' ⟨rfl, rfl⟩
        go_wp2_with fail
        refine (CC.out).mono ?_
        rintro e w7 ⟨v7, rfl, ho7, hb7⟩
        clear qi c5 x2 x3 x4 x5 x6 hW6
        have hb47 : Below W4.heap.size W4 w7 := HB46.out.trans (hb7.mono HB46.out.size)
        have HR7 := HR4h.out.run hb47
        obtain ⟨x1, x2, x3, x4, x5, x6⟩ := row_facts HR7
        have c5 := cell_fact HR7 5
        have c1 := cell_fact HR7 1
        simp only [sesA] at c5 c1
        have hw1 : (seq + 1).tmod 256 = (seq + 1) % 256 := Int.tmod_eq_emod_of_nonneg (by omega)
        clear x1
        go_wp2_with fail
        obtain ⟨pa, pn, pc, rfl⟩ : ∃ pa pn pc, v7 = .slice pa pn pc := by
          rcases ho7.2 with ⟨rfl, _⟩ | ⟨g, cap, cur, rfl, _⟩ <;> exact ⟨_, _, _, rfl⟩
        have hU7 : Upd s w w7 := upd_below HU4.out hb47
        obtain ⟨W9, hW9⟩ : ∃ W9, (w7.setCell ⟨s, 5, none⟩ (.slice none 0 0)).setCell ⟨s, 1, none⟩ (.int .i64 ((seq + 1) % 256)) = W9 := ⟨_, rfl⟩
        have hU79 : Upd s w7 W9 := hW9 ▸ upd_set (upd_set (upd_refl s w7) 5 _) 1 _
        have HR9 : RowAt W9 s 85 (sesA ⟨id, (seq + 1) % 256, tries⟩ (.slice a1 (sentD devs ⟨dst, id, seq, kind, par, dat⟩).length k1) (.slice fa rest.length fc) (.slice none 0 0)) := hW9 ▸ RowAt.set (RowAt.set HR7 rfl) rfl
        have hT9 := WireT.upd (HT4.out.run hb47) HR7 hU79
        have hS7 : StrsAt w7 (.slice pa pn pc) (late ++ ([] : List ByteArray)) := strs_of ho7 (by simp) (by simp only [List.length_nil]; omega)
        have hS9 := seq_upd hS7 (typed_own ho7) HR7 (by decide) hU79
        have HU9 := Lib.hid (upd_upd hU7 hU79)
        have HR9h := Lib.hid HR9
        have HT9 := Lib.hid hT9
        have HS9 := Lib.hid hS9
        have hlt9 : s < W9.heap.size := lt_of_block HR9
        have HTX : Hid (∀ t ∈ late ++ ([] : List ByteArray), t.size ≤ 100000) := fun t ht => by
          rcases List.mem_append.1 ht with h | h
          · have := hs t h
            omega
          · cases h
        clear c1 c5 x2 x3 x4 x5 x6 HR9 hT9 hS7 hS9 hU79 hU7 HR7 hb47 ho7 hb7
        refine (heard_any pa pn pc _).mono ?_
        rintro e w11 ⟨rfl, rfl⟩
        go_wp2_with fail
        obtain ⟨i1, hi', hz0', hz1', hz2'⟩ := info_parts Tryz.info_msg
        have hz9 : W9.heap.size = w7.heap.size := by rw [← hW9]; simp
        refine with_act fun act hact => ?_
        refine (wpIn_wide (n := 4)).1 ?_
        refine wpIn_rangeFunc_ownH rfl (by decide) (gf := 128) (lb := #[.pointer (some ⟨W9.heap.size + 1, 0, none⟩)]) (by rw [hact, hz9]; rfl) trivial (enters_of Tryz.func128 (by kernel_rfl) rfl)
          (heard_stops (W9.heap.size + 1) W9.heap.size (.slice pa pn pc) (late ++ ([] : List ByteArray)) HTX.out (by simp; omega) ((W9.alloc (.cells #[.slice none 0 0] 138)).alloc (.cells #[.slice pa pn pc] 27)) (by simp) (by simp; omega) (cell_fact (RowAt.mk (w := W9.alloc (.cells #[.slice none 0 0] 138)) (b := W9.heap.size + 1) (T := 27) (cs := #[.slice pa pn pc]) (by simp) rfl) 0) W9 rfl (((Below.refl _ W9).alloc (Nat.le_refl _) _).alloc (by simp) _) HS9.out)
          belowK_t (belowK_b (by simp; omega)) (Below.refl _ _) (fun _ => rfl)
          (fun pre W => (∃ v, Boxed W w7.heap.size 138 v ∧ W.ownsRow W9.heap.size 52 6 v pre.length (msgsL pre) ∧ True) ∧ Below W9.heap.size W9 W)
          (fun _ _ _ => False)
          (OwnFrom.and (Own.from (holdsRow_own _ _ _ _ _ (fun pre => List.length pre) (fun pre => msgsL pre) (fun _ _ => True)) _) (ownFrom_below (Nat.le_refl _) (by simp; omega)))
          (fun _ _ _ _ _ hs _ _ => hs)
          ⟨⟨_, (Boxed.new W9 _ _).alloc _ |> (hz9 ▸ ·), World.ownsRow_nil _ _ _ _, trivial⟩, ((Below.refl _ W9).alloc (Nat.le_refl _) _).alloc (by simp) _⟩
          (fun x a' W => ∃ Bx, w7.heap.size < Bx ∧ RowAt W Bx 52 (msgA x) ∧ a' = { tmps := (act.tmps.setIfInBounds 117 (msgV x)).setIfInBounds 18 (.pointer (some ⟨Bx, 0, none⟩)), defers := [] })
          (fun x a' _ X Y row ⟨Bx, h1, hr, e⟩ hg hrow => ⟨Bx, h1, row_own hr hg (fun r e => (hrow r e).2), e⟩) ?assign ?body ?done ?stop
        case assign =>
          rintro l pre x W K ⟨⟨v, hv, hrow, -⟩, hB⟩ hK
          subst hact
          gi_wp2
          refine hK _ _ ((KeepsOthers.alloc _ _).from _) ((Below.refl _ W).alloc hB.size _) ⟨⟨v, hv.alloc _, hrow.alloc _, trivial⟩, hB.alloc hB.size _⟩ ⟨W.heap.size, hv.lt, RowAt.new _ _ _, ?_⟩
          simp [msgV]
        case body =>
          rintro l pre x a' W hl ⟨r, hr⟩ ⟨⟨v, hv, hrow, -⟩, hB⟩ ⟨Bx, hBx, bX, rfl⟩ hlt
          subst hact
          have hN : pre.length < 128 := by
            have h1 : (heardM (late ++ ([] : List ByteArray))).length ≤ (late ++ ([] : List ByteArray)).length := List.length_filterMap_le _ _
            simp only [List.length_append, List.length_nil] at h1
            omega
          have hc := hv.cell
          have hf := hv.frozen
          have m0 := cell_fact bX 0
          have m1 := cell_fact bX 1
          have m2 := cell_fact bX 2
          have m3 := cell_fact bX 3
          have m4 := cell_fact bX 4
          have m5 := cell_fact bX 5
          simp only [msgA] at m0 m1 m2 m3 m4 m5
          obtain ⟨x1, x2, x3, x4, x5, x6⟩ := row_facts bX
          clear x1
          have hBs := hB.size
          gi_wp2_with (gi_at_builtin; refine wpListIn_append_own _ rfl _ _ 138 rfl W9.heap.size 52 i1 _ 6 56 Tryz.underlying138 hi' hz0' hz1' hz2' rfl (by decide) _ _ _ rfl (hrow.alloc _) ⟨W.heap.size, 0, none⟩ 1 1 (msgA x).toList rfl rfl ?e1 (msg_ones x) ?e3 ?e4 ?e5 ?_)
          case e1 => first | exact msg_news (d := x) (RowAt.mk (by first | rfl | simp) rfl) | (intro j u hj; simpa [msgA] using hj)
          case e3 => unfold maxLen; omega
          case e4 => omega
          case e5 => first | omega | (simp; omega)
          · intro v' w1 hown' hgrow _
            obtain ⟨g', cap', rfl⟩ := ownsRow_succ hown'
            rw [← hz9] at hown'
            obtain ⟨hv1, hv2, hr2, hk2, hb2⟩ := hv.appended (by decide) hrow hB.size (by omega) hown' hgrow
            have hc1 := hv1.cell
            have hf1 := hv1.frozen
            gi_wp2
            exact ⟨hk2.from _, hb2, ⟨⟨_, hv2, by simpa [msgsL_append, msgsL] using hr2, trivial⟩, hB.trans hb2⟩⟩
        case done =>
          rintro D ys W hD rfl ⟨⟨v, hv, hrow, -⟩, hB⟩ hK
          have hc := hv.cell
          subst hact
          go_wp2_with fail
          refine ⟨by simp, .inl ⟨_, _, rfl, run_takeDeferred hK, ?_⟩⟩
          refine ⟨_, results_tmp rfl _ _ _, ?_⟩
          have hBE : Below W9.heap.size W9 (W.putObj D (.deferred none)) := hB.trans (belowK_b (w := W9) (Nat.le_refl _) W D _ _ (by simp at hD; omega) hK rfl rfl)
          have hT := HT9.out.run hBE
          have hhear : hearW ⟨id, seq, tries⟩ ⟨dst, kind, par, dat⟩ ⟨devs, 2 :: rest, late⟩ = heardM (late ++ ([] : List ByteArray)) := by
            simp [hearW, nowW, faultW]
          have hsend : sendW ⟨id, seq, tries⟩ ⟨dst, kind, par, dat⟩ ⟨devs, 2 :: rest, late⟩ = ⟨sentD devs ⟨dst, id, seq, kind, par, dat⟩, rest, []⟩ := by
            simp [sendW, lateW, faultW, ofM]
          unfold SendPost
          rw [hhear, hsend]
          refine ⟨v, _, _, _, rfl, own_msgs (ownsRow_putObj hrow _ hK rfl) (Nat.le_trans (List.length_filterMap_le _ _) (by simp; omega)), HR9h.out.run hBE, ⟨hT.devs, hT.faults, .inl ⟨rfl, _, _, rfl⟩, hT.td, hT.tf, typed_nil _ _ _ _, nilone_nil, hT.room⟩, upd_below HU9.out hBE⟩
        case stop =>
          rintro D c pre W _ _ h _
          exact h.elim
end Go.Proofs.YtpkhcehddfmhpaaGreat

namespace Go.Proofs.YtpkhcehddfmhpaaGreat
open Go.RowKit Go.Shelf

attribute [local go_sem] Oper.semAt_some

theorem spoil_size (s : ByteArray) : (spoil s).size = s.size := by
  unfold spoil
  rw [str_size, List.length_set]
  simp
/-- What spoiling answers leaves. -/
theorem fault4_own (B n : Nat) (v : Value) (l : List ByteArray) (w : World) (h : w.ownsRow B 9 1 v n (strsV l)) (hn : n = l.length) (hl : l.length ≤ 1000) (hs : ∀ s ∈ l, 0 < s.size ∧ s.size ≤ 100000) :
    Calls Tryz.prog 124 #[v] w fun e w' => e = .returned (.tuple #[v, .slice none 0 0]) ∧ w'.ownsRow B 9 1 v n (strsV (l.map spoil)) ∧ Below B w w' := by
  subst hn
  rcases h.2 with ⟨rfl, h0⟩ | ⟨g, cap, cur, rfl, hb, hg, hnc, hcm, _⟩
  · have hl0 : l = [] := List.eq_nil_of_length_eq_zero h0
    subst hl0
    refine (fault4_none w).mono ?_
    rintro e w' ⟨rfl, rfl⟩
    exact ⟨rfl, h, Below.refl _ _⟩
  · obtain ⟨_, _, hb2, hrow, hc, hm⟩ := own_strrow h
    refine (fault4_some g 9 cap cap l w hrow hl hs).mono ?_
    rintro e w' ⟨rfl, hr, _, _, hbb⟩
    have := strrow_own hr hb2 (by simpa using hc) hm
    rw [List.length_map] at this
    exact ⟨rfl, this, hbb.mono hb2⟩

set_option maxHeartbeats 8000000 in
set_option maxRecDepth 100000 in
theorem send_f3 (s : Nat) (x : Mgr) (dst kind par : Int) (dat : ByteArray) (y : Wre) (dv fv lv : Value) (w : World) (h : RowAt w s 85 (sesA x dv fv lv)) (hw : WireT w dv fv lv y) (rest : List Int) (hf : y.faults = 3 :: rest) (hfl : rest.length ≤ 5000)
    (hd : devsE y.devs = 0) (hm : chk (ofM x ⟨dst, kind, par, dat⟩) = 0) (q0 : 0 ≤ x.seq) (q1 : x.seq ≤ 255) (hl : y.late.length ≤ 64) (hs : ∀ t ∈ y.late, t.size ≤ 4096) :
    Calls Tryz.prog 68 #[.pointer (some ⟨s, 0, none⟩), .agg #[.int .u64 dst, .int .i64 kind, .int .i64 par, .string dat]] w (SendPost s x ⟨dst, kind, par, dat⟩ y w) := by
  obtain ⟨devs, faults, late⟩ := y
  obtain ⟨id, seq, tries⟩ := x
  dsimp only at hf hd hl hs q0 q1
  subst hf
  obtain ⟨fb, fo, fk, rfl, hfb, hfc⟩ : ∃ fb fo fk, fv = .slice (some ⟨fb, fo, none⟩) (rest.length + 1) fk ∧ fb < w.heap.size ∧ ∀ j, j < (rest.length + 1) * 1 → w.cell? ⟨fb, fo + j, none⟩ = i64C (3 :: rest) j := by
    rcases hw.faults with ⟨e0, _⟩ | ⟨_, _, fb, fo, fk, e, hlt, hc⟩
    · simp at e0
    · exact ⟨fb, fo, fk, by simpa using e, hlt, by simpa using hc⟩
  obtain ⟨da, dc, rfl⟩ : ∃ da dc, dv = .slice da devs.length dc := seq_shape hw.devs
  obtain ⟨la, lc, rfl⟩ : ∃ la lc, lv = .slice la late.length lc := seq_shape hw.late
  obtain ⟨W0, hW0⟩ : ∃ W0, w.alloc (.cells #[.int .u64 dst, .int .i64 kind, .int .i64 par, .string dat] 33 (0, 0)) = W0 := ⟨_, rfl⟩
  have hr0 : RowAt W0 s 85 (sesA ⟨id, seq, tries⟩ (.slice da devs.length dc) (.slice (some ⟨fb, fo, none⟩) (rest.length + 1) fk) (.slice la late.length lc)) := hW0 ▸ h.alloc _
  have hq0 : RowAt W0 w.heap.size 33 #[.int .u64 dst, .int .i64 kind, .int .i64 par, .string dat] := hW0 ▸ RowAt.new w _ _
  have hu0 : Below w.heap.size w W0 := hW0 ▸ (Below.refl _ _).alloc (Nat.le_refl _) _
  have hw0 := hw.run hu0
  have g0 : W0.cell? ⟨fb, fo, none⟩ = some (.int .i64 3) := (hu0.cell (p := ⟨fb, fo, none⟩) hfb).trans (hfc 0 (by omega))
  have hfk : rest.length + 1 ≤ fk := hw.room _ _ _ rfl
  have hnil : NilOne (.slice la late.length lc) := hw.nil
  have CL := Lib.hid (clone_ints (.slice (some ⟨fb, fo + 1, none⟩) rest.length (fk - 1)) rest W0 (ints_tail hu0 hfb hfc hfl) (by omega))
  have hlen0 : (0 : Int) < (rest.length : Int) + 1 := by omega
  have hlen1 : (rest.length : Int) ≤ 5000 := by omega
  obtain ⟨x1, x2, x3, x4, x5, x6⟩ := row_facts hr0
  have c4 := cell_fact hr0 4
  simp only [sesA] at c4
  have HR0 := Lib.hid hr0
  have HQ0 := Lib.hid hq0
  have HU0 := Lib.hid hu0
  have HW0 := Lib.hid hw0
  have HNIL := Lib.hid hnil
  have hs0 : s < w.heap.size := lt_of_block h
  clear x1 h hw hr0 hq0 hu0 hw0 hnil hfc
  refine (callsIn_wide (n := 3)).1 (callsIn_of_wp_marks Tryz.func68 rfl trivial ?_ rfl)
  refine wpIn_wide.2 ?_
  simp only [Tryz.ntmps68, List.size_toArray, List.length_cons, List.length_nil, Nat.reduceAdd, Nat.reduceSub, Array.replicate_succ, Array.replicate_zero, List.push_toArray, List.append_toArray, List.nil_append, List.cons_append]
  have HFK := Lib.hid hfk
  clear hfk
  go_wp2_with fail
  all_goals
    have hfk := HFK.out
    first
    | refine (CL.out).mono ?_
    | refine (clone_ints _ rest W0 (.inl ⟨by omega, _, _, by rw [show rest.length = 0 from by omega]⟩) (by omega)).mono ?_
    rintro e w1 ⟨fv1, rfl, hfo, hb1⟩
    have hfi := own_ints hfo rfl (by omega)
    obtain ⟨fa, fc, rfl⟩ := seq_shape hfi
    have hra := HR0.out.run hb1
    have hu01 : Upd s w w1 := upd_below (upd_below (upd_refl s w) HU0.out) hb1
    clear x2 x3 x4 x5 x6 c4 g0 hW0
    obtain ⟨x1, x2, x3, x4, x5, x6⟩ := row_facts hra
    have c4 := cell_fact hra 4
    simp only [sesA] at c4
    clear x1
    obtain ⟨W1, hW1⟩ : ∃ W1, w1.setCell ⟨s, 4, none⟩ (.slice fa rest.length fc) = W1 := ⟨_, rfl⟩
    have hu11 : Upd s w1 W1 := hW1 ▸ upd_set (upd_refl s w1) 4 _
    have hr1 : RowAt W1 s 85 (sesA ⟨id, seq, tries⟩ (.slice da devs.length dc) (.slice fa rest.length fc) (.slice la late.length lc)) := hW1 ▸ RowAt.set hra rfl
    have hq1 : RowAt W1 w.heap.size 33 #[.int .u64 dst, .int .i64 kind, .int .i64 par, .string dat] := (HQ0.out.run hb1).upd hu11 (by omega)
    have hu1 : Upd s w W1 := upd_upd hu01 hu11
    have hw0 := HW0.out.run hb1
    have hwa : WireT w1 (.slice da devs.length dc) (.slice fa rest.length fc) (.slice la late.length lc) ⟨devs, rest, late⟩ := ⟨hw0.devs, hfi, hw0.late, hw0.td, typed_own hfo, hw0.tl, hw0.nil, room_own hfo⟩
    have hw1 := WireT.upd hwa hra hu11
    clear hwa hw0 hu01 hra hfi hfo hb1 hfk CL
    go_wp2_with fail
    clear x2 x3 x4 x5 x6 c4
    obtain ⟨x1, x2, x3, x4, x5, x6⟩ := row_facts hr1
    obtain ⟨y1, y2, y3, y4, y5, y6⟩ := row_facts hq1
    have c0 := cell_fact hr1 0
    have c1 := cell_fact hr1 1
    have c2 := cell_fact hr1 2
    have c3 := cell_fact hr1 3
    have c4 := cell_fact hr1 4
    have c5 := cell_fact hr1 5
    simp only [sesA] at c0 c1 c2 c3 c4 c5
    have d0 := cell_fact hq1 0
    have d1 := cell_fact hq1 1
    have d2 := cell_fact hq1 2
    have d3 := cell_fact hq1 3
    have HM := Lib.hid hm
    have HDV := Lib.hid hd
    have HR1 := Lib.hid hr1
    have HQ1 := Lib.hid hq1
    have HU1 := Lib.hid hu1
    have HW1 := Lib.hid hw1
    obtain ⟨r1, r2, r3⟩ := bus_right2 hd hm
    have C := Lib.hid (fun W => bus2_any (.slice da devs.length dc) devs dst id seq kind par dat W)
    simp only [ofM] at r1 r2 r3
    rw [r1, r2, r3] at C
    clear x1 y1 hm hd hr1 hq1 hu1 hw1 r1 r2 r3
    go_region_held3 (fun w' => w'.cell? ⟨s, 0, none⟩ = some (.int .u64 id) ∧ w'.cell? ⟨s, 1, none⟩ = some (.int .i64 seq) ∧ w'.cell? ⟨s, 2, none⟩ = some (.int .i64 tries) ∧ w'.cell? ⟨s, 3, none⟩ = some (.slice da devs.length dc) ∧ w'.cell? ⟨w.heap.size, 0, none⟩ = some (.int .u64 dst) ∧ w'.cell? ⟨w.heap.size, 1, none⟩ = some (.int .i64 kind) ∧ w'.cell? ⟨w.heap.size, 2, none⟩ = some (.int .i64 par) ∧ w'.cell? ⟨w.heap.size, 3, none⟩ = some (.string dat)) (first | go_keep | (refine ⟨?_, ?_, ?_, ?_, ?_, ?_, ?_, ?_⟩ <;> exact cell_run hba (by assumption)) | (refine ⟨?_, ?_, ?_, ?_, ?_, ?_, ?_, ?_⟩ <;> exact cell_run hb3 (cell_run (w := W1.drew) hba (by assumption))))
      (first | (go_at_call 67; refine (mof_any _ _ _ _ _ _ _ _).mono ?_; rintro e wa ⟨rfl, hba⟩; skip) | (go_at_call 88; refine (C.out _ (by exact DevsAt.below (w := W1.drew) HW1.out.devs hba)).mono ?_; rintro e w3 ⟨v1, v2, rfl, hd3, ha3, hb3, ht3⟩; skip))
    clear c0 c1 c2 c3 c4 c5 d0 d1 d2 d3 x2 x3 x4 x5 x6 y2 y3 y4 y5 y6 C
    obtain ⟨a1, k1, rfl⟩ := seq_shape hd3
    obtain ⟨a2, k2, rfl⟩ := seq_shape ha3
    have hb13 : Below W1.heap.size W1 w3 := Below.trans (show Below W1.heap.size W1 wa from ⟨hba.os, hba.tape, hba.output, hba.size, hba.block⟩) (hb3.mono hba.size)
    have HR3 : RowAt w3 s 85 _ := HR1.out.run hb13
    obtain ⟨W4, hW4⟩ : ∃ W4, w3.setCell ⟨s, 3, none⟩ (.slice a1 (sentD devs ⟨dst, id, seq, kind, par, dat⟩).length k1) = W4 := ⟨_, rfl⟩
    have hU34 : Upd s w3 W4 := hW4 ▸ upd_set (upd_refl s w3) 3 _
    have HU4 := Lib.hid (upd_upd (upd_below (upd_below (upd_drew HU1.out) hba) hb3) hU34)
    have hT3 : WireT w3 (.slice a1 (sentD devs ⟨dst, id, seq, kind, par, dat⟩).length k1) (.slice fa rest.length fc) (.slice la late.length lc) ⟨sentD devs ⟨dst, id, seq, kind, par, dat⟩, rest, late⟩ :=
      ⟨hd3, (HW1.out.run hb13).faults, (HW1.out.run hb13).late, ht3, (HW1.out.run hb13).tf, (HW1.out.run hb13).tl, HW1.out.nil, HW1.out.room⟩
    have HT4 := Lib.hid (WireT.upd hT3 HR3 hU34)
    have HR4 : RowAt W4 s 85 (sesA ⟨id, seq, tries⟩ (.slice a1 (sentD devs ⟨dst, id, seq, kind, par, dat⟩).length k1) (.slice fa rest.length fc) (.slice la late.length lc)) := hW4 ▸ RowAt.set HR3 rfl
    obtain ⟨x1, x2, x3, x4, x5, x6⟩ := row_facts HR3
    have c3 := cell_fact HR3 3
    simp only [sesA] at c3
    have hA1 : (sentA devs ⟨dst, id, seq, kind, par, dat⟩).length ≤ 64 := Nat.le_trans (sentA_length _ _) (devs_few2 HDV.out).1
    have hAc := fun a ha => (sent_answers (devs_few2 HDV.out).2 HM.out a ha).1
    obtain ⟨A, hA⟩ : ∃ A, sentA devs ⟨dst, id, seq, kind, par, dat⟩ = A := ⟨_, rfl⟩
    simp only [ofM] at hAc
    rw [hA] at ha3 hA1 hAc ⊢
    have hA0 : (A.length : Int) ≤ 64 := by omega
    have HA3 := Lib.hid (msgs_upd ha3 HR3 hU34)
    have HR4h := Lib.hid HR4
    have HAC := Lib.hid hAc
    have HA := Lib.hid hA
    have hlt4 : s < W4.heap.size := lt_of_block HR4
    obtain ⟨i0, hi, hz0, hz1, hz2⟩ := info_parts Tryz.info_strH
    clear hba hb3 hd3 ha3 ht3 hb13 hU34 hT3 HR3 HR4 x1 hAc hA
    go_wp2_with fail
    clear c3 x2 x3 x4 x5 x6 hW4
    go_loopw [6, 69] (fun vt i wr => ∃ k : Nat, k ≤ A.length ∧ i = .int .i64 k ∧ wr.ownsRow W4.heap.size 9 1 vt k (strsV ((A.map txtM).take k)) ∧ Below W4.heap.size W4 wr) (fun _ i _ => A.length - (intOf i).toNat)
    case atStart => exact ⟨0, Nat.zero_le _, rfl, World.ownsRow_nil _ _ _ _, Below.refl _ _⟩
    case round =>
      obtain ⟨k, hk, rfl, hown, hb0⟩ := hrel
      by_cases hlt2 : k < A.length
      · have hlt3 : (k : Int) < (A.length : Int) := by omega
        have hw1 : ∃ b off cap, Value.slice a2 A.length k2 = .slice (some ⟨b, off, none⟩) A.length cap ∧ ∀ j, j < A.length * 6 → wr.cell? ⟨b, off + j, none⟩ = msgsC A j := by
          rcases HA3.out with ⟨e0, _⟩ | ⟨_, _, b, off, cap, e, hlt, hc⟩
          · omega
          · exact ⟨b, off, cap, e, fun j hj => (hb0.cell (p := ⟨b, off + j, none⟩) hlt).trans (hc j hj)⟩
        obtain ⟨b, off, cap, e, hw1⟩ := hw1
        cases e
        obtain ⟨a, ha, e0, e1, e2, e3, e4, e5⟩ := msg_cells hw1 k hlt2
        have hca := HAC.out a (List.mem_of_getElem? ha)
        have C : Hid (∀ W, Calls Tryz.prog 13 #[.agg #[.int .u64 a.dst, .int .u64 a.src, .int .i64 a.seq, .int .i64 a.kind, .int .i64 a.par, .string a.dat]] W fun e w' => e = .returned (.tuple #[.string (txtM a), .int .i64 0]) ∧ Below W.heap.size W w') := fun W => (enc_any a.dst a.src a.seq a.kind a.par a.dat W).mono fun e w' ⟨s, n, he, hh, hb⟩ => by
          have := hh.out
          rw [encM, if_neg (not_not_intro hca)] at this
          cases this
          exact ⟨he, hb⟩
        have hT : strsV ((A.map txtM).take (k + 1)) = strsV ((A.map txtM).take k) ++ [.string (txtM a)] := by
          rw [take_succ_some (show (A.map txtM)[k]? = some (txtM a) from by simp [ha])]
          simp [strsV]
        have HT := Lib.hid hT
        obtain ⟨t, ht⟩ : ∃ t, txtM a = t := ⟨_, rfl⟩
        rw [ht] at C HT
        clear hw1 hca ha hT ht
        go_wp2_with fail
        refine (C.out _).mono ?_
        rintro e w1 ⟨rfl, hb1⟩
        have hb1' : Below wr.heap.size wr w1 := below_run ((Below.refl _ _).alloc (Nat.le_refl _) _) hb1
        have own1 := own_run hown hb1'
        have hbw := below_run hb0 hb1'
        have hz1' := hbw.size
        clear hown hb0 hb1 hb1' e0 e1 e2 e3 e4 e5
        go_wp2_with (at_builtin; refine wpList_append_own _ rfl (.tmp 78) (.tmp 80) 27 rfl W4.heap.size 9 i0 _ 1 16 Tryz.underlying27 hi hz0 hz1 hz2 rfl (by decide) _ _ _ rfl (own1.alloc _) ⟨w1.heap.size, 0, none⟩ 1 1 [.string t] rfl rfl ?c1 ?c2 ?c3 ?c4 ?c5 ?_)
        case c1 =>
          intro j u hj
          match j, hj with
          | 0, hj =>
            simp at hj
            subst hj
            have hr0 : RowAt (w1.alloc (.cells #[.string t] 9)) w1.heap.size 9 #[.string t] := RowAt.new _ _ _
            exact (row_facts hr0).1 0
        case c2 => intro u hu; simp at hu; subst hu; rfl
        case c3 => unfold maxLen; omega
        case c4 => omega
        case c5 => simp; omega
        · intro v' w4 hown1 hgrow _
          have hb4 := below_grown (hbw.alloc (by omega) _) (own1.alloc _) (by omega) hgrow (by simp; omega)
          clear own1 hgrow hbw
          go_wp2
          go_roundw
          case rel =>
            refine ⟨k + 1, by omega, by go_num, ?_, hb4⟩
            rw [HT.out]
            exact hown1
          case measure => simp [intOf]; omega
      · obtain rfl : k = A.length := by omega
        rw [List.take_of_length_le (by simp)] at hown
        go_wp2_with fail
        refine (faults_any wr).mono ?_
        rintro e w5 ⟨rfl, hb5⟩
        have hown5 := own_run hown hb5
        have hb45 : Below W4.heap.size W4 w5 := hb0.trans (hb5.mono hb0.size)
        obtain ⟨ta, tn, tc, rfl⟩ : ∃ ta tn tc, u6 = .slice ta tn tc := by
          rcases hown.2 with ⟨rfl, _⟩ | ⟨g, cap, cur, rfl, _⟩ <;> exact ⟨_, _, _, rfl⟩
        clear hown hb0 hb5
        have HSZ : Hid (∀ t ∈ A.map txtM, 0 < t.size ∧ t.size ≤ 100000) := fun t ht => by
          obtain ⟨a, ha, rfl⟩ := List.mem_map.1 ht
          have h1 := (small_of_chk (HAC.out a ha)).2.2.2.2.2.2.2.2.2.2
          have h2 : (txtM a).size = (madeL a).length := by simp [txtM, str_size]
          rw [h2, madeL_length]
          omega
        have qi := fault_at3
        go_wp2_with fail
        refine (fault4_own W4.heap.size _ _ (A.map txtM) w5 hown5 (by simp) (by simp; omega) HSZ.out).mono ?_
        rintro e w6 ⟨rfl, hown6, hb6⟩
        replace hb45 : Below W4.heap.size W4 w6 := hb45.trans hb6
        clear hown5 hb6
        have HR5 := HR4h.out.run hb45
        have HST := Lib.hid (strs_of hown6 (by simp) (by omega))
        have HNL := Lib.hid (nilone_own hown6)
        obtain ⟨x1, x2, x3, x4, x5, x6⟩ := row_facts HR5
        have c5 := cell_fact HR5 5
        simp only [sesA] at c5
        obtain ⟨W6, hW6⟩ : ∃ W6, w6.alloc (.cells #[.slice la late.length lc, .slice ta tn tc] 27) = W6 := ⟨_, rfl⟩
        have HQ6 : RowAt W6 w6.heap.size 27 #[.slice la late.length lc, .slice ta tn tc] := hW6 ▸ RowAt.new _ _ _
        have hb56 : Below w6.heap.size w6 W6 := hW6 ▸ (Below.refl _ _).alloc (Nat.le_refl _) _
        have hb46 : Below W4.heap.size W4 W6 := hb45.trans (hb56.mono hb45.size)
        have CC := Lib.hid (concat_two w6.heap.size la ta late.length lc tn tc late ((A.map txtM).map spoil) W6 HQ6 (HT4.out.late.runM hb46) (HST.out.runM hb56) HT4.out.nil HNL.out (by omega) (by simp; omega))
        have HB46 := Lib.hid hb46
        clear hown6 HR5 x1 HQ6 hb56 hb45 hb46
        go_wp2_with fail
        refine (CC.out).mono ?_
        rintro e w7 ⟨v7, rfl, ho7, hb7⟩
        clear qi c5 x2 x3 x4 x5 x6 hW6
        have hb47 : Below W4.heap.size W4 w7 := HB46.out.trans (hb7.mono HB46.out.size)
        have HR7 := HR4h.out.run hb47
        obtain ⟨x1, x2, x3, x4, x5, x6⟩ := row_facts HR7
        have c5 := cell_fact HR7 5
        have c1 := cell_fact HR7 1
        simp only [sesA] at c5 c1
        have hw1 : (seq + 1).tmod 256 = (seq + 1) % 256 := Int.tmod_eq_emod_of_nonneg (by omega)
        clear x1
        go_wp2_with fail
        obtain ⟨pa, pn, pc, rfl⟩ : ∃ pa pn pc, v7 = .slice pa pn pc := by
          rcases ho7.2 with ⟨rfl, _⟩ | ⟨g, cap, cur, rfl, _⟩ <;> exact ⟨_, _, _, rfl⟩
        have hU7 : Upd s w w7 := upd_below HU4.out hb47
        obtain ⟨W9, hW9⟩ : ∃ W9, (w7.setCell ⟨s, 5, none⟩ (.slice none 0 0)).setCell ⟨s, 1, none⟩ (.int .i64 ((seq + 1) % 256)) = W9 := ⟨_, rfl⟩
        have hU79 : Upd s w7 W9 := hW9 ▸ upd_set (upd_set (upd_refl s w7) 5 _) 1 _
        have HR9 : RowAt W9 s 85 (sesA ⟨id, (seq + 1) % 256, tries⟩ (.slice a1 (sentD devs ⟨dst, id, seq, kind, par, dat⟩).length k1) (.slice fa rest.length fc) (.slice none 0 0)) := hW9 ▸ RowAt.set (RowAt.set HR7 rfl) rfl
        have hT9 := WireT.upd (HT4.out.run hb47) HR7 hU79
        have hS7 : StrsAt w7 (.slice pa pn pc) (late ++ (A.map txtM).map spoil) := strs_of ho7 (by simp) (by simp; omega)
        have hS9 := seq_upd hS7 (typed_own ho7) HR7 (by decide) hU79
        have HU9 := Lib.hid (upd_upd hU7 hU79)
        have HR9h := Lib.hid HR9
        have HT9 := Lib.hid hT9
        have HS9 := Lib.hid hS9
        have hlt9 : s < W9.heap.size := lt_of_block HR9
        have HTX : Hid (∀ t ∈ late ++ (A.map txtM).map spoil, t.size ≤ 100000) := fun t ht => by
          rcases List.mem_append.1 ht with h | h
          · have := hs t h
            omega
          · obtain ⟨b, hb, rfl⟩ := List.mem_map.1 h
            exact (spoil_size b).symm ▸ (HSZ.out b hb).2
        clear c1 c5 x2 x3 x4 x5 x6 HR9 hT9 hS7 hS9 hU79 hU7 HR7 hb47 ho7 hb7
        refine (heard_any pa pn pc _).mono ?_
        rintro e w11 ⟨rfl, rfl⟩
        go_wp2_with fail
        obtain ⟨i1, hi', hz0', hz1', hz2'⟩ := info_parts Tryz.info_msg
        have hz9 : W9.heap.size = w7.heap.size := by rw [← hW9]; simp
        refine with_act fun act hact => ?_
        refine (wpIn_wide (n := 4)).1 ?_
        refine wpIn_rangeFunc_ownH rfl (by decide) (gf := 128) (lb := #[.pointer (some ⟨W9.heap.size + 1, 0, none⟩)]) (by rw [hact, hz9]; rfl) trivial (enters_of Tryz.func128 (by kernel_rfl) rfl)
          (heard_stops (W9.heap.size + 1) W9.heap.size (.slice pa pn pc) (late ++ (A.map txtM).map spoil) HTX.out (by simp; omega) ((W9.alloc (.cells #[.slice none 0 0] 138)).alloc (.cells #[.slice pa pn pc] 27)) (by simp) (by simp; omega) (cell_fact (RowAt.mk (w := W9.alloc (.cells #[.slice none 0 0] 138)) (b := W9.heap.size + 1) (T := 27) (cs := #[.slice pa pn pc]) (by simp) rfl) 0) W9 rfl (((Below.refl _ W9).alloc (Nat.le_refl _) _).alloc (by simp) _) HS9.out)
          belowK_t (belowK_b (by simp; omega)) (Below.refl _ _) (fun _ => rfl)
          (fun pre W => (∃ v, Boxed W w7.heap.size 138 v ∧ W.ownsRow W9.heap.size 52 6 v pre.length (msgsL pre) ∧ True) ∧ Below W9.heap.size W9 W)
          (fun _ _ _ => False)
          (OwnFrom.and (Own.from (holdsRow_own _ _ _ _ _ (fun pre => List.length pre) (fun pre => msgsL pre) (fun _ _ => True)) _) (ownFrom_below (Nat.le_refl _) (by simp; omega)))
          (fun _ _ _ _ _ hs _ _ => hs)
          ⟨⟨_, (Boxed.new W9 _ _).alloc _ |> (hz9 ▸ ·), World.ownsRow_nil _ _ _ _, trivial⟩, ((Below.refl _ W9).alloc (Nat.le_refl _) _).alloc (by simp) _⟩
          (fun x a' W => ∃ Bx, w7.heap.size < Bx ∧ RowAt W Bx 52 (msgA x) ∧ a' = { tmps := (act.tmps.setIfInBounds 117 (msgV x)).setIfInBounds 18 (.pointer (some ⟨Bx, 0, none⟩)), defers := [] })
          (fun x a' _ X Y row ⟨Bx, h1, hr, e⟩ hg hrow => ⟨Bx, h1, row_own hr hg (fun r e => (hrow r e).2), e⟩) ?assign ?body ?done ?stop
        case assign =>
          rintro l pre x W K ⟨⟨v, hv, hrow, -⟩, hB⟩ hK
          subst hact
          gi_wp2
          refine hK _ _ ((KeepsOthers.alloc _ _).from _) ((Below.refl _ W).alloc hB.size _) ⟨⟨v, hv.alloc _, hrow.alloc _, trivial⟩, hB.alloc hB.size _⟩ ⟨W.heap.size, hv.lt, RowAt.new _ _ _, ?_⟩
          simp [msgV]
        case body =>
          rintro l pre x a' W hl ⟨r, hr⟩ ⟨⟨v, hv, hrow, -⟩, hB⟩ ⟨Bx, hBx, bX, rfl⟩ hlt
          subst hact
          have hN : pre.length < 128 := by
            have h1 : (heardM (late ++ (A.map txtM).map spoil)).length ≤ (late ++ (A.map txtM).map spoil).length := List.length_filterMap_le _ _
            simp only [List.length_append, List.length_map] at h1
            omega
          have hc := hv.cell
          have hf := hv.frozen
          have m0 := cell_fact bX 0
          have m1 := cell_fact bX 1
          have m2 := cell_fact bX 2
          have m3 := cell_fact bX 3
          have m4 := cell_fact bX 4
          have m5 := cell_fact bX 5
          simp only [msgA] at m0 m1 m2 m3 m4 m5
          obtain ⟨x1, x2, x3, x4, x5, x6⟩ := row_facts bX
          clear x1
          have hBs := hB.size
          gi_wp2_with (gi_at_builtin; refine wpListIn_append_own _ rfl _ _ 138 rfl W9.heap.size 52 i1 _ 6 56 Tryz.underlying138 hi' hz0' hz1' hz2' rfl (by decide) _ _ _ rfl (hrow.alloc _) ⟨W.heap.size, 0, none⟩ 1 1 (msgA x).toList rfl rfl ?e1 (msg_ones x) ?e3 ?e4 ?e5 ?_)
          case e1 => first | exact msg_news (d := x) (RowAt.mk (by first | rfl | simp) rfl) | (intro j u hj; simpa [msgA] using hj)
          case e3 => unfold maxLen; omega
          case e4 => omega
          case e5 => first | omega | (simp; omega)
          · intro v' w1 hown' hgrow _
            obtain ⟨g', cap', rfl⟩ := ownsRow_succ hown'
            rw [← hz9] at hown'
            obtain ⟨hv1, hv2, hr2, hk2, hb2⟩ := hv.appended (by decide) hrow hB.size (by omega) hown' hgrow
            have hc1 := hv1.cell
            have hf1 := hv1.frozen
            gi_wp2
            exact ⟨hk2.from _, hb2, ⟨⟨_, hv2, by simpa [msgsL_append, msgsL] using hr2, trivial⟩, hB.trans hb2⟩⟩
        case done =>
          rintro D ys W hD rfl ⟨⟨v, hv, hrow, -⟩, hB⟩ hK
          have hc := hv.cell
          subst hact
          go_wp2_with fail
          refine ⟨by simp, .inl ⟨_, _, rfl, run_takeDeferred hK, ?_⟩⟩
          refine ⟨_, results_tmp rfl _ _ _, ?_⟩
          have hBE : Below W9.heap.size W9 (W.putObj D (.deferred none)) := hB.trans (belowK_b (w := W9) (Nat.le_refl _) W D _ _ (by simp at hD; omega) hK rfl rfl)
          have hT := HT9.out.run hBE
          have hhear : hearW ⟨id, seq, tries⟩ ⟨dst, kind, par, dat⟩ ⟨devs, 3 :: rest, late⟩ = heardM (late ++ (A.map txtM).map spoil) := by
            simp [hearW, nowW, faultW, textsW, ofM, HA.out]
          have hsend : sendW ⟨id, seq, tries⟩ ⟨dst, kind, par, dat⟩ ⟨devs, 3 :: rest, late⟩ = ⟨sentD devs ⟨dst, id, seq, kind, par, dat⟩, rest, []⟩ := by
            simp [sendW, lateW, faultW, ofM]
          unfold SendPost
          rw [hhear, hsend]
          refine ⟨v, _, _, _, rfl, own_msgs (ownsRow_putObj hrow _ hK rfl) (Nat.le_trans (List.length_filterMap_le _ _) (by simp; omega)), HR9h.out.run hBE, ⟨hT.devs, hT.faults, .inl ⟨rfl, _, _, rfl⟩, hT.td, hT.tf, typed_nil _ _ _ _, nilone_nil, hT.room⟩, upd_below HU9.out hBE⟩
        case stop =>
          rintro D c pre W _ _ h _
          exact h.elim
end Go.Proofs.YtpkhcehddfmhpaaGreat

namespace Go.Proofs.YtpkhcehddfmhpaaGreat
open Go.RowKit Go.Shelf

attribute [local go_sem] Oper.semAt_some

set_option maxHeartbeats 8000000 in
set_option maxRecDepth 100000 in
theorem send_f4 (s : Nat) (x : Mgr) (dst kind par : Int) (dat : ByteArray) (y : Wre) (dv fv lv : Value) (w : World) (h : RowAt w s 85 (sesA x dv fv lv)) (hw : WireT w dv fv lv y) (rest : List Int) (hf : y.faults = 4 :: rest) (hfl : rest.length ≤ 5000)
    (hd : devsE y.devs = 0) (hm : chk (ofM x ⟨dst, kind, par, dat⟩) = 0) (q0 : 0 ≤ x.seq) (q1 : x.seq ≤ 255) (hl : y.late.length ≤ 64) (hs : ∀ t ∈ y.late, t.size ≤ 4096) :
    Calls Tryz.prog 68 #[.pointer (some ⟨s, 0, none⟩), .agg #[.int .u64 dst, .int .i64 kind, .int .i64 par, .string dat]] w (SendPost s x ⟨dst, kind, par, dat⟩ y w) := by
  obtain ⟨devs, faults, late⟩ := y
  obtain ⟨id, seq, tries⟩ := x
  dsimp only at hf hd hl hs q0 q1
  subst hf
  obtain ⟨fb, fo, fk, rfl, hfb, hfc⟩ : ∃ fb fo fk, fv = .slice (some ⟨fb, fo, none⟩) (rest.length + 1) fk ∧ fb < w.heap.size ∧ ∀ j, j < (rest.length + 1) * 1 → w.cell? ⟨fb, fo + j, none⟩ = i64C (4 :: rest) j := by
    rcases hw.faults with ⟨e0, _⟩ | ⟨_, _, fb, fo, fk, e, hlt, hc⟩
    · simp at e0
    · exact ⟨fb, fo, fk, by simpa using e, hlt, by simpa using hc⟩
  obtain ⟨da, dc, rfl⟩ : ∃ da dc, dv = .slice da devs.length dc := seq_shape hw.devs
  obtain ⟨la, lc, rfl⟩ : ∃ la lc, lv = .slice la late.length lc := seq_shape hw.late
  obtain ⟨W0, hW0⟩ : ∃ W0, w.alloc (.cells #[.int .u64 dst, .int .i64 kind, .int .i64 par, .string dat] 33 (0, 0)) = W0 := ⟨_, rfl⟩
  have hr0 : RowAt W0 s 85 (sesA ⟨id, seq, tries⟩ (.slice da devs.length dc) (.slice (some ⟨fb, fo, none⟩) (rest.length + 1) fk) (.slice la late.length lc)) := hW0 ▸ h.alloc _
  have hq0 : RowAt W0 w.heap.size 33 #[.int .u64 dst, .int .i64 kind, .int .i64 par, .string dat] := hW0 ▸ RowAt.new w _ _
  have hu0 : Below w.heap.size w W0 := hW0 ▸ (Below.refl _ _).alloc (Nat.le_refl _) _
  have hw0 := hw.run hu0
  have g0 : W0.cell? ⟨fb, fo, none⟩ = some (.int .i64 4) := (hu0.cell (p := ⟨fb, fo, none⟩) hfb).trans (hfc 0 (by omega))
  have hfk : rest.length + 1 ≤ fk := hw.room _ _ _ rfl
  have hnil : NilOne (.slice la late.length lc) := hw.nil
  have CL := Lib.hid (clone_ints (.slice (some ⟨fb, fo + 1, none⟩) rest.length (fk - 1)) rest W0 (ints_tail hu0 hfb hfc hfl) (by omega))
  have hlen0 : (0 : Int) < (rest.length : Int) + 1 := by omega
  have hlen1 : (rest.length : Int) ≤ 5000 := by omega
  obtain ⟨x1, x2, x3, x4, x5, x6⟩ := row_facts hr0
  have c4 := cell_fact hr0 4
  simp only [sesA] at c4
  have HR0 := Lib.hid hr0
  have HQ0 := Lib.hid hq0
  have HU0 := Lib.hid hu0
  have HW0 := Lib.hid hw0
  have HNIL := Lib.hid hnil
  have hs0 : s < w.heap.size := lt_of_block h
  clear x1 h hw hr0 hq0 hu0 hw0 hnil hfc
  refine (callsIn_wide (n := 3)).1 (callsIn_of_wp_marks Tryz.func68 rfl trivial ?_ rfl)
  refine wpIn_wide.2 ?_
  simp only [Tryz.ntmps68, List.size_toArray, List.length_cons, List.length_nil, Nat.reduceAdd, Nat.reduceSub, Array.replicate_succ, Array.replicate_zero, List.push_toArray, List.append_toArray, List.nil_append, List.cons_append]
  have HFK := Lib.hid hfk
  clear hfk
  go_wp2_with fail
  all_goals
    have hfk := HFK.out
    first
    | refine (CL.out).mono ?_
    | refine (clone_ints _ rest W0 (.inl ⟨by omega, _, _, by rw [show rest.length = 0 from by omega]⟩) (by omega)).mono ?_
    rintro e w1 ⟨fv1, rfl, hfo, hb1⟩
    have hfi := own_ints hfo rfl (by omega)
    obtain ⟨fa, fc, rfl⟩ := seq_shape hfi
    have hra := HR0.out.run hb1
    have hu01 : Upd s w w1 := upd_below (upd_below (upd_refl s w) HU0.out) hb1
    clear x2 x3 x4 x5 x6 c4 g0 hW0
    obtain ⟨x1, x2, x3, x4, x5, x6⟩ := row_facts hra
    have c4 := cell_fact hra 4
    simp only [sesA] at c4
    clear x1
    obtain ⟨W1, hW1⟩ : ∃ W1, w1.setCell ⟨s, 4, none⟩ (.slice fa rest.length fc) = W1 := ⟨_, rfl⟩
    have hu11 : Upd s w1 W1 := hW1 ▸ upd_set (upd_refl s w1) 4 _
    have hr1 : RowAt W1 s 85 (sesA ⟨id, seq, tries⟩ (.slice da devs.length dc) (.slice fa rest.length fc) (.slice la late.length lc)) := hW1 ▸ RowAt.set hra rfl
    have hq1 : RowAt W1 w.heap.size 33 #[.int .u64 dst, .int .i64 kind, .int .i64 par, .string dat] := (HQ0.out.run hb1).upd hu11 (by omega)
    have hu1 : Upd s w W1 := upd_upd hu01 hu11
    have hw0 := HW0.out.run hb1
    have hwa : WireT w1 (.slice da devs.length dc) (.slice fa rest.length fc) (.slice la late.length lc) ⟨devs, rest, late⟩ := ⟨hw0.devs, hfi, hw0.late, hw0.td, typed_own hfo, hw0.tl, hw0.nil, room_own hfo⟩
    have hw1 := WireT.upd hwa hra hu11
    clear hwa hw0 hu01 hra hfi hfo hb1 hfk CL
    go_wp2_with fail
    clear x2 x3 x4 x5 x6 c4
    obtain ⟨x1, x2, x3, x4, x5, x6⟩ := row_facts hr1
    obtain ⟨y1, y2, y3, y4, y5, y6⟩ := row_facts hq1
    have c0 := cell_fact hr1 0
    have c1 := cell_fact hr1 1
    have c2 := cell_fact hr1 2
    have c3 := cell_fact hr1 3
    have c4 := cell_fact hr1 4
    have c5 := cell_fact hr1 5
    simp only [sesA] at c0 c1 c2 c3 c4 c5
    have d0 := cell_fact hq1 0
    have d1 := cell_fact hq1 1
    have d2 := cell_fact hq1 2
    have d3 := cell_fact hq1 3
    have HM := Lib.hid hm
    have HDV := Lib.hid hd
    have HR1 := Lib.hid hr1
    have HQ1 := Lib.hid hq1
    have HU1 := Lib.hid hu1
    have HW1 := Lib.hid hw1
    obtain ⟨r1, r2, r3⟩ := bus_right2 hd hm
    have C := Lib.hid (fun W => bus2_any (.slice da devs.length dc) devs dst id seq kind par dat W)
    simp only [ofM] at r1 r2 r3
    rw [r1, r2, r3] at C
    clear x1 y1 hm hd hr1 hq1 hu1 hw1 r1 r2 r3
    go_region_held3 (fun w' => w'.cell? ⟨s, 0, none⟩ = some (.int .u64 id) ∧ w'.cell? ⟨s, 1, none⟩ = some (.int .i64 seq) ∧ w'.cell? ⟨s, 2, none⟩ = some (.int .i64 tries) ∧ w'.cell? ⟨s, 3, none⟩ = some (.slice da devs.length dc) ∧ w'.cell? ⟨w.heap.size, 0, none⟩ = some (.int .u64 dst) ∧ w'.cell? ⟨w.heap.size, 1, none⟩ = some (.int .i64 kind) ∧ w'.cell? ⟨w.heap.size, 2, none⟩ = some (.int .i64 par) ∧ w'.cell? ⟨w.heap.size, 3, none⟩ = some (.string dat)) (first | go_keep | (refine ⟨?_, ?_, ?_, ?_, ?_, ?_, ?_, ?_⟩ <;> exact cell_run hba (by assumption)) | (refine ⟨?_, ?_, ?_, ?_, ?_, ?_, ?_, ?_⟩ <;> exact cell_run hb3 (cell_run (w := W1.drew) hba (by assumption))))
      (first | (go_at_call 67; refine (mof_any _ _ _ _ _ _ _ _).mono ?_; rintro e wa ⟨rfl, hba⟩; skip) | (go_at_call 88; refine (C.out _ (by exact DevsAt.below (w := W1.drew) HW1.out.devs hba)).mono ?_; rintro e w3 ⟨v1, v2, rfl, hd3, ha3, hb3, ht3⟩; skip))
    clear c0 c1 c2 c3 c4 c5 d0 d1 d2 d3 x2 x3 x4 x5 x6 y2 y3 y4 y5 y6 C
    obtain ⟨a1, k1, rfl⟩ := seq_shape hd3
    obtain ⟨a2, k2, rfl⟩ := seq_shape ha3
    have hb13 : Below W1.heap.size W1 w3 := Below.trans (show Below W1.heap.size W1 wa from ⟨hba.os, hba.tape, hba.output, hba.size, hba.block⟩) (hb3.mono hba.size)
    have HR3 : RowAt w3 s 85 _ := HR1.out.run hb13
    obtain ⟨W4, hW4⟩ : ∃ W4, w3.setCell ⟨s, 3, none⟩ (.slice a1 (sentD devs ⟨dst, id, seq, kind, par, dat⟩).length k1) = W4 := ⟨_, rfl⟩
    have hU34 : Upd s w3 W4 := hW4 ▸ upd_set (upd_refl s w3) 3 _
    have HU4 := Lib.hid (upd_upd (upd_below (upd_below (upd_drew HU1.out) hba) hb3) hU34)
    have hT3 : WireT w3 (.slice a1 (sentD devs ⟨dst, id, seq, kind, par, dat⟩).length k1) (.slice fa rest.length fc) (.slice la late.length lc) ⟨sentD devs ⟨dst, id, seq, kind, par, dat⟩, rest, late⟩ :=
      ⟨hd3, (HW1.out.run hb13).faults, (HW1.out.run hb13).late, ht3, (HW1.out.run hb13).tf, (HW1.out.run hb13).tl, HW1.out.nil, HW1.out.room⟩
    have HT4 := Lib.hid (WireT.upd hT3 HR3 hU34)
    have HR4 : RowAt W4 s 85 (sesA ⟨id, seq, tries⟩ (.slice a1 (sentD devs ⟨dst, id, seq, kind, par, dat⟩).length k1) (.slice fa rest.length fc) (.slice la late.length lc)) := hW4 ▸ RowAt.set HR3 rfl
    obtain ⟨x1, x2, x3, x4, x5, x6⟩ := row_facts HR3
    have c3 := cell_fact HR3 3
    simp only [sesA] at c3
    have hA1 : (sentA devs ⟨dst, id, seq, kind, par, dat⟩).length ≤ 64 := Nat.le_trans (sentA_length _ _) (devs_few2 HDV.out).1
    have hAc := fun a ha => (sent_answers (devs_few2 HDV.out).2 HM.out a ha).1
    obtain ⟨A, hA⟩ : ∃ A, sentA devs ⟨dst, id, seq, kind, par, dat⟩ = A := ⟨_, rfl⟩
    simp only [ofM] at hAc
    rw [hA] at ha3 hA1 hAc ⊢
    have hA0 : (A.length : Int) ≤ 64 := by omega
    have HA3 := Lib.hid (msgs_upd ha3 HR3 hU34)
    have HR4h := Lib.hid HR4
    have HAC := Lib.hid hAc
    have HA := Lib.hid hA
    have hlt4 : s < W4.heap.size := lt_of_block HR4
    obtain ⟨i0, hi, hz0, hz1, hz2⟩ := info_parts Tryz.info_strH
    clear hba hb3 hd3 ha3 ht3 hb13 hU34 hT3 HR3 HR4 x1 hAc hA
    go_wp2_with fail
    clear c3 x2 x3 x4 x5 x6 hW4
    go_loopw [6, 69] (fun vt i wr => ∃ k : Nat, k ≤ A.length ∧ i = .int .i64 k ∧ wr.ownsRow W4.heap.size 9 1 vt k (strsV ((A.map txtM).take k)) ∧ Below W4.heap.size W4 wr) (fun _ i _ => A.length - (intOf i).toNat)
    case atStart => exact ⟨0, Nat.zero_le _, rfl, World.ownsRow_nil _ _ _ _, Below.refl _ _⟩
    case round =>
      obtain ⟨k, hk, rfl, hown, hb0⟩ := hrel
      by_cases hlt2 : k < A.length
      · have hlt3 : (k : Int) < (A.length : Int) := by omega
        have hw1 : ∃ b off cap, Value.slice a2 A.length k2 = .slice (some ⟨b, off, none⟩) A.length cap ∧ ∀ j, j < A.length * 6 → wr.cell? ⟨b, off + j, none⟩ = msgsC A j := by
          rcases HA3.out with ⟨e0, _⟩ | ⟨_, _, b, off, cap, e, hlt, hc⟩
          · omega
          · exact ⟨b, off, cap, e, fun j hj => (hb0.cell (p := ⟨b, off + j, none⟩) hlt).trans (hc j hj)⟩
        obtain ⟨b, off, cap, e, hw1⟩ := hw1
        cases e
        obtain ⟨a, ha, e0, e1, e2, e3, e4, e5⟩ := msg_cells hw1 k hlt2
        have hca := HAC.out a (List.mem_of_getElem? ha)
        have C : Hid (∀ W, Calls Tryz.prog 13 #[.agg #[.int .u64 a.dst, .int .u64 a.src, .int .i64 a.seq, .int .i64 a.kind, .int .i64 a.par, .string a.dat]] W fun e w' => e = .returned (.tuple #[.string (txtM a), .int .i64 0]) ∧ Below W.heap.size W w') := fun W => (enc_any a.dst a.src a.seq a.kind a.par a.dat W).mono fun e w' ⟨s, n, he, hh, hb⟩ => by
          have := hh.out
          rw [encM, if_neg (not_not_intro hca)] at this
          cases this
          exact ⟨he, hb⟩
        have hT : strsV ((A.map txtM).take (k + 1)) = strsV ((A.map txtM).take k) ++ [.string (txtM a)] := by
          rw [take_succ_some (show (A.map txtM)[k]? = some (txtM a) from by simp [ha])]
          simp [strsV]
        have HT := Lib.hid hT
        obtain ⟨t, ht⟩ : ∃ t, txtM a = t := ⟨_, rfl⟩
        rw [ht] at C HT
        clear hw1 hca ha hT ht
        go_wp2_with fail
        refine (C.out _).mono ?_
        rintro e w1 ⟨rfl, hb1⟩
        have hb1' : Below wr.heap.size wr w1 := below_run ((Below.refl _ _).alloc (Nat.le_refl _) _) hb1
        have own1 := own_run hown hb1'
        have hbw := below_run hb0 hb1'
        have hz1' := hbw.size
        clear hown hb0 hb1 hb1' e0 e1 e2 e3 e4 e5
        go_wp2_with (at_builtin; refine wpList_append_own _ rfl (.tmp 78) (.tmp 80) 27 rfl W4.heap.size 9 i0 _ 1 16 Tryz.underlying27 hi hz0 hz1 hz2 rfl (by decide) _ _ _ rfl (own1.alloc _) ⟨w1.heap.size, 0, none⟩ 1 1 [.string t] rfl rfl ?c1 ?c2 ?c3 ?c4 ?c5 ?_)
        case c1 =>
          intro j u hj
          match j, hj with
          | 0, hj =>
            simp at hj
            subst hj
            have hr0 : RowAt (w1.alloc (.cells #[.string t] 9)) w1.heap.size 9 #[.string t] := RowAt.new _ _ _
            exact (row_facts hr0).1 0
        case c2 => intro u hu; simp at hu; subst hu; rfl
        case c3 => unfold maxLen; omega
        case c4 => omega
        case c5 => simp; omega
        · intro v' w4 hown1 hgrow _
          have hb4 := below_grown (hbw.alloc (by omega) _) (own1.alloc _) (by omega) hgrow (by simp; omega)
          clear own1 hgrow hbw
          go_wp2
          go_roundw
          case rel =>
            refine ⟨k + 1, by omega, by go_num, ?_, hb4⟩
            rw [HT.out]
            exact hown1
          case measure => simp [intOf]; omega
      · obtain rfl : k = A.length := by omega
        rw [List.take_of_length_le (by simp)] at hown
        go_wp2_with fail
        refine (faults_any wr).mono ?_
        rintro e w5 ⟨rfl, hb5⟩
        have hown5 := own_run hown hb5
        have hb45 : Below W4.heap.size W4 w5 := hb0.trans (hb5.mono hb0.size)
        obtain ⟨ta, tn, tc, rfl⟩ : ∃ ta tn tc, u6 = .slice ta tn tc := by
          rcases hown.2 with ⟨rfl, _⟩ | ⟨g, cap, cur, rfl, _⟩ <;> exact ⟨_, _, _, rfl⟩
        clear hown hb0 hb5
        have HR5 := HR4h.out.run hb45
        have HST := Lib.hid (strs_of hown5 (by simp) (by omega))
        have HNL := Lib.hid (nilone_own hown5)
        have HTY := Lib.hid (typed_own hown5)
        obtain ⟨x1, x2, x3, x4, x5, x6⟩ := row_facts HR5
        have c5 := cell_fact HR5 5
        simp only [sesA] at c5
        obtain ⟨W6, hW6⟩ : ∃ W6, w5.alloc (.cells #[.slice la late.length lc, .slice none 0 0] 27) = W6 := ⟨_, rfl⟩
        have HQ6 : RowAt W6 w5.heap.size 27 #[.slice la late.length lc, .slice none 0 0] := hW6 ▸ RowAt.new _ _ _
        have hb56 : Below w5.heap.size w5 W6 := hW6 ▸ (Below.refl _ _).alloc (Nat.le_refl _) _
        have hb46 : Below W4.heap.size W4 W6 := hb45.trans (hb56.mono hb45.size)
        have CC := Lib.hid (concat_two w5.heap.size la none late.length lc 0 0 late [] W6 HQ6 (HT4.out.late.runM hb46) (.inl ⟨rfl, _, _, rfl⟩) HT4.out.nil nilone_nil (by omega) (by simp))
        have HB46 := Lib.hid hb46
        have HB56 := Lib.hid hb56
        clear hown5 HR5 x1 HQ6 hb56 hb45 hb46
        have qi := fault_at4
        go_wp2_with fail
        refine (fault5_any _ _).mono ?_
        rintro e w5' ⟨rfl, rfl⟩
        go_wp2_with fail
        refine (CC.out).mono ?_
        rintro e w7 ⟨v7, rfl, ho7, hb7⟩
        clear qi c5 x2 x3 x4 x5 x6 hW6
        have hb47 : Below W4.heap.size W4 w7 := HB46.out.trans (hb7.mono HB46.out.size)
        have HR7 := HR4h.out.run hb47
        have hb57 : Below w5.heap.size w5 w7 := HB56.out.trans (hb7.mono HB56.out.size)
        obtain ⟨x1, x2, x3, x4, x5, x6⟩ := row_facts HR7
        have c5 := cell_fact HR7 5
        have c1 := cell_fact HR7 1
        simp only [sesA] at c5 c1
        have hw1 : (seq + 1).tmod 256 = (seq + 1) % 256 := Int.tmod_eq_emod_of_nonneg (by omega)
        clear x1
        go_wp2_with fail
        obtain ⟨pa, pn, pc, rfl⟩ : ∃ pa pn pc, v7 = .slice pa pn pc := by
          rcases ho7.2 with ⟨rfl, _⟩ | ⟨g, cap, cur, rfl, _⟩ <;> exact ⟨_, _, _, rfl⟩
        have hU7 : Upd s w w7 := upd_below HU4.out hb47
        obtain ⟨W9, hW9⟩ : ∃ W9, (w7.setCell ⟨s, 5, none⟩ (.slice ta tn tc)).setCell ⟨s, 1, none⟩ (.int .i64 ((seq + 1) % 256)) = W9 := ⟨_, rfl⟩
        have hU79 : Upd s w7 W9 := hW9 ▸ upd_set (upd_set (upd_refl s w7) 5 _) 1 _
        have HR9 : RowAt W9 s 85 (sesA ⟨id, (seq + 1) % 256, tries⟩ (.slice a1 (sentD devs ⟨dst, id, seq, kind, par, dat⟩).length k1) (.slice fa rest.length fc) (.slice ta tn tc)) := hW9 ▸ RowAt.set (RowAt.set HR7 rfl) rfl
        have hT9 := WireT.upd (HT4.out.run hb47) HR7 hU79
        have hS7 : StrsAt w7 (.slice pa pn pc) (late ++ ([] : List ByteArray)) := strs_of ho7 (by simp) (by simp only [List.length_nil]; omega)
        have hS9 := seq_upd hS7 (typed_own ho7) HR7 (by decide) hU79
        have HU9 := Lib.hid (upd_upd hU7 hU79)
        have HL9 := Lib.hid (seq_upd (HST.out.runM hb57) (HTY.out.run hb57) HR7 (by decide) hU79)
        have HTL9 := Lib.hid (typed_upd (HTY.out.run hb57) HR7 (by decide) hU79)
        have HR9h := Lib.hid HR9
        have HT9 := Lib.hid hT9
        have HS9 := Lib.hid hS9
        have hlt9 : s < W9.heap.size := lt_of_block HR9
        have HTX : Hid (∀ t ∈ late ++ ([] : List ByteArray), t.size ≤ 100000) := fun t ht => by
          rcases List.mem_append.1 ht with h | h
          · have := hs t h
            omega
          · cases h
        clear hb57
        clear c1 c5 x2 x3 x4 x5 x6 HR9 hT9 hS7 hS9 hU79 hU7 HR7 hb47 ho7 hb7
        refine (heard_any pa pn pc _).mono ?_
        rintro e w11 ⟨rfl, rfl⟩
        go_wp2_with fail
        obtain ⟨i1, hi', hz0', hz1', hz2'⟩ := info_parts Tryz.info_msg
        have hz9 : W9.heap.size = w7.heap.size := by rw [← hW9]; simp
        refine with_act fun act hact => ?_
        refine (wpIn_wide (n := 4)).1 ?_
        refine wpIn_rangeFunc_ownH rfl (by decide) (gf := 128) (lb := #[.pointer (some ⟨W9.heap.size + 1, 0, none⟩)]) (by rw [hact, hz9]; rfl) trivial (enters_of Tryz.func128 (by kernel_rfl) rfl)
          (heard_stops (W9.heap.size + 1) W9.heap.size (.slice pa pn pc) (late ++ ([] : List ByteArray)) HTX.out (by simp; omega) ((W9.alloc (.cells #[.slice none 0 0] 138)).alloc (.cells #[.slice pa pn pc] 27)) (by simp) (by simp; omega) (cell_fact (RowAt.mk (w := W9.alloc (.cells #[.slice none 0 0] 138)) (b := W9.heap.size + 1) (T := 27) (cs := #[.slice pa pn pc]) (by simp) rfl) 0) W9 rfl (((Below.refl _ W9).alloc (Nat.le_refl _) _).alloc (by simp) _) HS9.out)
          belowK_t (belowK_b (by simp; omega)) (Below.refl _ _) (fun _ => rfl)
          (fun pre W => (∃ v, Boxed W w7.heap.size 138 v ∧ W.ownsRow W9.heap.size 52 6 v pre.length (msgsL pre) ∧ True) ∧ Below W9.heap.size W9 W)
          (fun _ _ _ => False)
          (OwnFrom.and (Own.from (holdsRow_own _ _ _ _ _ (fun pre => List.length pre) (fun pre => msgsL pre) (fun _ _ => True)) _) (ownFrom_below (Nat.le_refl _) (by simp; omega)))
          (fun _ _ _ _ _ hs _ _ => hs)
          ⟨⟨_, (Boxed.new W9 _ _).alloc _ |> (hz9 ▸ ·), World.ownsRow_nil _ _ _ _, trivial⟩, ((Below.refl _ W9).alloc (Nat.le_refl _) _).alloc (by simp) _⟩
          (fun x a' W => ∃ Bx, w7.heap.size < Bx ∧ RowAt W Bx 52 (msgA x) ∧ a' = { tmps := (act.tmps.setIfInBounds 117 (msgV x)).setIfInBounds 18 (.pointer (some ⟨Bx, 0, none⟩)), defers := [] })
          (fun x a' _ X Y row ⟨Bx, h1, hr, e⟩ hg hrow => ⟨Bx, h1, row_own hr hg (fun r e => (hrow r e).2), e⟩) ?assign ?body ?done ?stop
        case assign =>
          rintro l pre x W K ⟨⟨v, hv, hrow, -⟩, hB⟩ hK
          subst hact
          gi_wp2
          refine hK _ _ ((KeepsOthers.alloc _ _).from _) ((Below.refl _ W).alloc hB.size _) ⟨⟨v, hv.alloc _, hrow.alloc _, trivial⟩, hB.alloc hB.size _⟩ ⟨W.heap.size, hv.lt, RowAt.new _ _ _, ?_⟩
          simp [msgV]
        case body =>
          rintro l pre x a' W hl ⟨r, hr⟩ ⟨⟨v, hv, hrow, -⟩, hB⟩ ⟨Bx, hBx, bX, rfl⟩ hlt
          subst hact
          have hN : pre.length < 128 := by
            have h1 : (heardM (late ++ ([] : List ByteArray))).length ≤ (late ++ ([] : List ByteArray)).length := List.length_filterMap_le _ _
            simp only [List.length_append, List.length_nil] at h1
            omega
          have hc := hv.cell
          have hf := hv.frozen
          have m0 := cell_fact bX 0
          have m1 := cell_fact bX 1
          have m2 := cell_fact bX 2
          have m3 := cell_fact bX 3
          have m4 := cell_fact bX 4
          have m5 := cell_fact bX 5
          simp only [msgA] at m0 m1 m2 m3 m4 m5
          obtain ⟨x1, x2, x3, x4, x5, x6⟩ := row_facts bX
          clear x1
          have hBs := hB.size
          gi_wp2_with (gi_at_builtin; refine wpListIn_append_own _ rfl _ _ 138 rfl W9.heap.size 52 i1 _ 6 56 Tryz.underlying138 hi' hz0' hz1' hz2' rfl (by decide) _ _ _ rfl (hrow.alloc _) ⟨W.heap.size, 0, none⟩ 1 1 (msgA x).toList rfl rfl ?e1 (msg_ones x) ?e3 ?e4 ?e5 ?_)
          case e1 => first | exact msg_news (d := x) (RowAt.mk (by first | rfl | simp) rfl) | (intro j u hj; simpa [msgA] using hj)
          case e3 => unfold maxLen; omega
          case e4 => omega
          case e5 => first | omega | (simp; omega)
          · intro v' w1 hown' hgrow _
            obtain ⟨g', cap', rfl⟩ := ownsRow_succ hown'
            rw [← hz9] at hown'
            obtain ⟨hv1, hv2, hr2, hk2, hb2⟩ := hv.appended (by decide) hrow hB.size (by omega) hown' hgrow
            have hc1 := hv1.cell
            have hf1 := hv1.frozen
            gi_wp2
            exact ⟨hk2.from _, hb2, ⟨⟨_, hv2, by simpa [msgsL_append, msgsL] using hr2, trivial⟩, hB.trans hb2⟩⟩
        case done =>
          rintro D ys W hD rfl ⟨⟨v, hv, hrow, -⟩, hB⟩ hK
          have hc := hv.cell
          subst hact
          go_wp2_with fail
          refine ⟨by simp, .inl ⟨_, _, rfl, run_takeDeferred hK, ?_⟩⟩
          refine ⟨_, results_tmp rfl _ _ _, ?_⟩
          have hBE : Below W9.heap.size W9 (W.putObj D (.deferred none)) := hB.trans (belowK_b (w := W9) (Nat.le_refl _) W D _ _ (by simp at hD; omega) hK rfl rfl)
          have hT := HT9.out.run hBE
          have hhear : hearW ⟨id, seq, tries⟩ ⟨dst, kind, par, dat⟩ ⟨devs, 4 :: rest, late⟩ = heardM (late ++ ([] : List ByteArray)) := by
            simp [hearW, nowW, faultW]
          have hsend : sendW ⟨id, seq, tries⟩ ⟨dst, kind, par, dat⟩ ⟨devs, 4 :: rest, late⟩ = ⟨sentD devs ⟨dst, id, seq, kind, par, dat⟩, rest, A.map txtM⟩ := by
            simp [sendW, lateW, faultW, textsW, ofM, HA.out]
          unfold SendPost
          rw [hhear, hsend]
          refine ⟨v, _, _, _, rfl, own_msgs (ownsRow_putObj hrow _ hK rfl) (Nat.le_trans (List.length_filterMap_le _ _) (by simp; omega)), HR9h.out.run hBE, ⟨hT.devs, hT.faults, StrsAt.runM HL9.out hBE, hT.td, hT.tf, HTL9.out.run hBE, HNL.out, hT.room⟩, upd_below HU9.out hBE⟩
        case stop =>
          rintro D c pre W _ _ h _
          exact h.elim
end Go.Proofs.YtpkhcehddfmhpaaGreat

namespace Go.Proofs.YtpkhcehddfmhpaaGreat
open Go.RowKit Go.Shelf

theorem msend_any (s : Nat) (x : Mgr) (dst kind par : Int) (dat : ByteArray) (y : Wre) (dv fv lv : Value) (w : World) (h : RowAt w s 85 (sesA x dv fv lv)) (hw : WireT w dv fv lv y) (hf : y.faults.any badFault = false) (hfl : y.faults.length ≤ 5000)
    (hd : devsE y.devs = 0) (hm : chk (ofM x ⟨dst, kind, par, dat⟩) = 0) (q0 : 0 ≤ x.seq) (q1 : x.seq ≤ 255) (hl : y.late.length ≤ 64) (hs : ∀ t ∈ y.late, t.size ≤ 4096) :
    Calls Tryz.prog 68 #[.pointer (some ⟨s, 0, none⟩), .agg #[.int .u64 dst, .int .i64 kind, .int .i64 par, .string dat]] w (SendPost s x ⟨dst, kind, par, dat⟩ y w) := by
  match e : y.faults with
  | [] => exact send_none s x dst kind par dat y dv fv lv w h hw e hd hm q0 q1 hl hs
  | f :: rest =>
    have hb : ¬ (f < 0 ∨ 4 < f) := by
      rw [e] at hf
      simp [badFault] at hf
      omega
    have hr : rest.length ≤ 5000 := by
      rw [e] at hfl
      simp at hfl
      omega
    have h5 : f = 0 ∨ f = 1 ∨ f = 2 ∨ f = 3 ∨ f = 4 := by omega
    rcases h5 with rfl | rfl | rfl | rfl | rfl
    · exact send_f0 s x dst kind par dat y dv fv lv w h hw rest e hr hd hm q0 q1 hl hs
    · exact send_f1 s x dst kind par dat y dv fv lv w h hw rest e hr hd hm q0 q1 hl hs
    · exact send_f2 s x dst kind par dat y dv fv lv w h hw rest e hr hd hm q0 q1 hl hs
    · exact send_f3 s x dst kind par dat y dv fv lv w h hw rest e hr hd hm q0 q1 hl hs
    · exact send_f4 s x dst kind par dat y dv fv lv w h hw rest e hr hd hm q0 q1 hl hs
end Go.Proofs.YtpkhcehddfmhpaaGreat
