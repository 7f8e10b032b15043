/-
  Send.
-/
import Derived.Test.YtpjmhhfpjhmiiaaGreatQd
namespace Go.Proofs.YtpjmhhfpjhmiiaaGreat
open Go.RowKit Go.Shelf

/-- A change of a small block leaves messages alone. -/
theorem msgs_small {w w' : World} {s T : Nat} {cs : Array Value} {v : Value} {l : List Msg} (h : MsgsAt w v l) (hr : RowAt w s T cs) (hz : cs.size < 6) (hu : Upd s w w') : MsgsAt w' v l :=
  SeqAt.same h hu.size fun b off cap e h0 hc => by
    have q5 : w.cell? ⟨b, off + 5, none⟩ = some (.string (l[0]'h0).dat) := by
      rw [hc 5 (by omega)]
      simp [msgsC, List.getElem?_eq_getElem h0, msgA]
    have hlt : b < w.heap.size := by
      by_cases hlt : b < w.heap.size
      · exact hlt
      · unfold World.cell? at q5
        rw [show w.heap[(⟨b, off + 5, none⟩ : Addr).block]? = none from Array.getElem?_eq_none (by show w.heap.size ≤ b; omega)] at q5
        cases q5
    refine hu.block b hlt (fun e => ?_)
    cases e
    rw [cell_fact hr, Array.getElem?_eq_none (by omega)] at q5
    cases q5
theorem MsgsAt.drew {w : World} {v : Value} {l : List Msg} (h : MsgsAt w v l) : MsgsAt w.drew v l := h
theorem given_parts {x : Mgr} {y : Wre} {r : Rqs} (hg : givenE x y r = 0) : mgrE x = 0 ∧ wireE y = 0 ∧ chk (ofM x r) = 0 := by
  unfold givenE at hg
  split at hg
  · rename_i h1; exact absurd hg h1
  · rename_i h1
    split at hg
    · rename_i h2; exact absurd hg h2
    · rename_i h2
      split at hg
      · rename_i h3; exact absurd hg h3
      · rename_i h3
        exact ⟨Decidable.not_not.1 h1, Decidable.not_not.1 h2, Decidable.not_not.1 h3⟩
/-- What Send returns. -/
def SendUPost (p : Mgr × Wre × List Msg) (n : Int) (w : World) (e : Ending) (w' : World) : Prop :=
  ∃ da fa la ma, ∃ dn dc fn fc ln lc mn mc : Nat, e = .returned (.tuple #[mgrV p.1, .agg #[.slice da dn dc, .slice fa fn fc, .slice la ln lc], .slice ma mn mc, .int .i64 n]) ∧ WireT w' (.slice da dn dc) (.slice fa fn fc) (.slice la ln lc) p.2.1 ∧ MsgsAt w' (.slice ma mn mc) p.2.2 ∧ Below w.heap.size w w'

set_option maxHeartbeats 4000000 in
set_option maxRecDepth 100000 in
theorem msendU_any (x : Mgr) (da fa la : Option Addr) (dn dc fn fc ln lc : Nat) (y : Wre) (dst kind par : Int) (dat : ByteArray) (w : World) (h : WireAt w (.slice da dn dc) (.slice fa fn fc) (.slice la ln lc) y) :
    Calls Tryz.prog 34 #[.agg #[.int .u64 x.id, .int .i64 x.seq, .int .i64 x.tries], .agg #[.slice da dn dc, .slice fa fn fc, .slice la ln lc], .agg #[.int .u64 dst, .int .i64 kind, .int .i64 par, .string dat]] w (SendUPost (sendU x y ⟨dst, kind, par, dat⟩) (givenE x y ⟨dst, kind, par, dat⟩) w) := by
  obtain ⟨id, seq, tries⟩ := x
  show Calls Tryz.prog 34 #[.agg #[.int .u64 id, .int .i64 seq, .int .i64 tries], _, _] w _
  obtain ⟨W, hW⟩ : ∃ W, ((((w.alloc (.cells #[.int .u64 id, .int .i64 seq, .int .i64 tries] 24)).alloc (.cells #[.slice da dn dc, .slice fa fn fc, .slice la ln lc] 29)).alloc (.cells #[.int .u64 dst, .int .i64 kind, .int .i64 par, .string dat] 50)).alloc (.cells #[.int .u64 0, .int .i64 0, .int .i64 0] 24)).alloc (.cells #[.slice none 0 0, .slice none 0 0, .slice none 0 0] 29) = W := ⟨_, rfl⟩
  have hbW : Below w.heap.size w W := by rw [← hW]; (repeat' (first | (with_reducible exact Below.refl _ _) | (with_reducible assumption) | (with_reducible refine below_run ?_ (by assumption)) | (with_reducible refine below_of_upd ?_ (by assumption) ?_) | (with_reducible refine below_drewN ?_ _) | (with_reducible refine Below.drew ?_) | (with_reducible refine below_seven ?_ ?_) | (with_reducible refine below_six ?_ ?_) | (with_reducible refine below_one ?_ ?_) | (with_reducible refine Below.alloc ?_ ?_ _) | (with_reducible refine below_after ?_ ?_ (by assumption)) | (show _ ≤ _; first | omega | (simp; done) | (simp; omega))))
  have r0 : RowAt W w.heap.size 24 #[.int .u64 id, .int .i64 seq, .int .i64 tries] := by rw [← hW]; exact ((((RowAt.new _ _ _).alloc _).alloc _).alloc _).alloc _
  have r1 : RowAt W (w.heap.size + 1) 29 #[.slice da dn dc, .slice fa fn fc, .slice la ln lc] := by rw [← hW]; exact (((RowAt.mk (by simp) rfl).alloc _).alloc _).alloc _
  have r2 : RowAt W (w.heap.size + 2) 50 #[.int .u64 dst, .int .i64 kind, .int .i64 par, .string dat] := by rw [← hW]; exact ((RowAt.mk (by simp) rfl).alloc _).alloc _
  have r3 : RowAt W (w.heap.size + 3) 24 #[.int .u64 0, .int .i64 0, .int .i64 0] := by rw [← hW]; exact (RowAt.mk (by simp) rfl).alloc _
  have r4 : RowAt W (w.heap.size + 4) 29 #[.slice none 0 0, .slice none 0 0, .slice none 0 0] := by rw [← hW]; exact RowAt.mk (by simp) rfl
  obtain ⟨E, hE⟩ : ∃ E, givenE ⟨id, seq, tries⟩ y ⟨dst, kind, par, dat⟩ = E := ⟨_, rfl⟩
  have C1 := Lib.hid (fun W hv => mgiven_any E id seq tries da fa la dn dc fn fc ln lc y dst kind par dat W hv hE)
  have H := Lib.hid (h.run hbW)
  have HB := Lib.hid hbW
  have HE := Lib.hid hE
  have R0 := Lib.hid r0
  have R1 := Lib.hid r1
  have R2 := Lib.hid r2
  have R3 := Lib.hid r3
  have R4 := Lib.hid r4
  obtain ⟨x1, x2, x3, x4, x5, x6⟩ := row_facts r0
  obtain ⟨y1, y2, y3, y4, y5, y6⟩ := row_facts r1
  obtain ⟨z1, z2, z3, z4, z5, z6⟩ := row_facts r2
  rw [hE]
  clear h hE r0 r1 r2 r3 r4 hbW
  go_enter Tryz.func34, Tryz.ntmps34
  go_upto_region 1 with fail
  clear hW
  go_wp2_with fail
  refine (C1.out _ H.out).mono ?_
  rintro e w1 ⟨rfl, hb1⟩
  rw [show w.heap.size + 1 + 1 + 1 + 1 = w.heap.size + 4 from rfl, show w.heap.size + 1 + 1 + 1 = w.heap.size + 3 from rfl, show w.heap.size + 1 + 1 = w.heap.size + 2 from rfl]
  have HB1 := Lib.hid (below_run HB.out hb1)
  have r3 := R3.out.run hb1
  have r4 := R4.out.run hb1
  have r0 := R0.out.run hb1
  have r1 := R1.out.run hb1
  have r2 := R2.out.run hb1
  have H1 := Lib.hid (H.out.run hb1)
  clear x1 x2 x3 x4 x5 x6 y1 y2 y3 y4 y5 y6 z1 z2 z3 z4 z5 z6 R0 R1 R2 R3 R4 hb1 HB H C1
  by_cases hz : E = 0
  · subst hz
    obtain ⟨g1, g2, g3⟩ := given_parts HE.out
    obtain ⟨k1, k2, k3, k4, k5⟩ := mgr_parts g1
    have hU : sendU ⟨id, seq, tries⟩ y ⟨dst, kind, par, dat⟩ = (nextM ⟨id, seq, tries⟩, sendW ⟨id, seq, tries⟩ ⟨dst, kind, par, dat⟩ y, hearW ⟨id, seq, tries⟩ ⟨dst, kind, par, dat⟩ y) := by rw [sendU, if_pos HE.out]
    obtain ⟨p, hp⟩ : ∃ p, nextM ⟨id, seq, tries⟩ = p := ⟨_, rfl⟩
    obtain ⟨y', hy'⟩ : ∃ y', sendW ⟨id, seq, tries⟩ ⟨dst, kind, par, dat⟩ y = y' := ⟨_, rfl⟩
    obtain ⟨L, hL⟩ : ∃ L, hearW ⟨id, seq, tries⟩ ⟨dst, kind, par, dat⟩ y = L := ⟨_, rfl⟩
    rw [hp, hy', hL] at hU
    have HUU := Lib.hid hU
    have C2 := Lib.hid (fun W hv => mcopied_any da fa la dn dc fn fc ln lc y W hv g2)
    have C3 : Hid (∀ s dv fv lv W, RowAt W s 124 (sesA ⟨id, seq, tries⟩ dv fv lv) → WireT W dv fv lv y → Calls Tryz.prog 71 #[.pointer (some ⟨s, 0, none⟩), .agg #[.int .u64 dst, .int .i64 kind, .int .i64 par, .string dat]] W (fun e w' =>
        ∃ v dv fv lv, e = .returned v ∧ MsgsAt w' v L ∧ RowAt w' s 124 (sesA p dv fv lv) ∧ WireT w' dv fv lv y' ∧ Upd s W w')) := fun s dv fv lv W h hw => by
      have := msend_any s ⟨id, seq, tries⟩ dst kind par dat y dv fv lv W h hw (wire_parts g2).2.2.1 (by have := (wire_parts g2).2.1; omega) (wire_parts g2).1 g3 k2 k3 (wire_parts g2).2.2.2.1 (long_all (wire_parts g2).2.2.2.2)
      unfold SendPost at this
      rw [hp, hy', hL] at this
      exact this
    obtain ⟨x1, x2, x3, x4, x5, x6⟩ := row_facts r0
    obtain ⟨y1, y2, y3, y4, y5, y6⟩ := row_facts r1
    have c0 := cell_fact r0 0
    have c1 := cell_fact r0 1
    have c2 := cell_fact r0 2
    have d0 := cell_fact r1 0
    have d1 := cell_fact r1 1
    have d2 := cell_fact r1 2
    simp only [List.getElem?_toArray] at c0 c1 c2 d0 d1 d2
    have R2 := Lib.hid r2
    have R3 := Lib.hid r3
    have R4 := Lib.hid r4
    clear g1 g2 g3 k1 k2 k3 k4 k5 hU hp hy' hL r0 r1 r2 r3 r4 x1 y1
    go_wp2
    go_region_held3 (fun w' => w'.cell? ⟨w.heap.size, 0, none⟩ = some (.int .u64 id) ∧ w'.cell? ⟨w.heap.size, 1, none⟩ = some (.int .i64 seq) ∧ w'.cell? ⟨w.heap.size, 2, none⟩ = some (.int .i64 tries) ∧ w'.cell? ⟨w.heap.size + 1, 0, none⟩ = some (.slice da dn dc) ∧ w'.cell? ⟨w.heap.size + 1, 1, none⟩ = some (.slice fa fn fc) ∧ w'.cell? ⟨w.heap.size + 1, 2, none⟩ = some (.slice la ln lc))
      (first | go_keep | (refine ⟨?_, ?_, ?_, ?_, ?_, ?_⟩ <;> assumption))
      ((go_at_call 61; refine (C2.out _ (by first | exact H1.out | exact H1.out.drew)).mono ?_; rintro e w2 ⟨a1, a2, a3, n1, k1, n2, k2, n3, k3, rfl, hw2, hb2⟩; have hb2' : Below w1.heap.size w1 w2 := (by first | exact hb2 | exact below_undrew hb2); have p0 := cell_run hb2' c0; have p1 := cell_run hb2' c1; have p2 := cell_run hb2' c2; have p3 := cell_run hb2' d0; have p4 := cell_run hb2' d1; have p5 := cell_run hb2' d2))
    have q2 := R2.out.run hb2'
    obtain ⟨z1, z2, z3, z4, z5, z6⟩ := row_facts q2
    have hs3 : RowAt (w2.alloc (.cells #[.int .u64 id, .int .i64 seq, .int .i64 tries, .slice a1 n1 k1, .slice a2 n2 k2, .slice a3 n3 k3] 124)) w2.heap.size 124 (sesA ⟨id, seq, tries⟩ (.slice a1 n1 k1) (.slice a2 n2 k2) (.slice a3 n3 k3)) := RowAt.new _ _ _
    have hb3 : Below w2.heap.size w2 (w2.alloc (.cells #[.int .u64 id, .int .i64 seq, .int .i64 tries, .slice a1 n1 k1, .slice a2 n2 k2, .slice a3 n3 k3] 124)) := (Below.refl _ _).alloc (Nat.le_refl _) _
    have C4 := Lib.hid (C3.out w2.heap.size _ _ _ _ hs3 (hw2.run hb3))
    have HB3 := Lib.hid (below_run hb2' hb3)
    clear p0 p1 p2 p3 p4 p5 hw2 q2 hs3 hb3 c0 c1 c2 d0 d1 d2 x2 x3 x4 x5 x6 y2 y3 y4 y5 y6 C3 C2
    obtain ⟨i', s', t'⟩ := p
    go_wp2_with fail
    refine C4.out.mono ?_
    rintro e w4 ⟨v, dv, fv, lv, rfl, hms, hs4, hw4, hu4⟩
    obtain ⟨ma, mc, rfl⟩ := seq_shape hms
    obtain ⟨mn, hmn⟩ : ∃ n, L.length = n := ⟨_, rfl⟩
    obtain ⟨da', dc', rfl⟩ := seq_shape hw4.devs
    obtain ⟨fa', fc', rfl⟩ := seq_shape hw4.faults
    obtain ⟨la', lc', rfl⟩ := seq_shape hw4.late
    have hz1 := HB1.out.size
    have hz3 := HB3.out.size
    obtain ⟨dn', hdn⟩ : ∃ n, y'.devs.length = n := ⟨_, rfl⟩
    obtain ⟨fn', hfn⟩ : ∃ n, y'.faults.length = n := ⟨_, rfl⟩
    obtain ⟨ln', hln⟩ : ∃ n, y'.late.length = n := ⟨_, rfl⟩
    rw [hdn, hfn, hln] at hs4
    simp only [hdn, hfn, hln] at hw4
    rw [hmn] at hms ⊢
    have hq3 : w.heap.size + 3 < w1.heap.size := lt_of_block R3.out
    have hq5 : w.heap.size + 4 < w1.heap.size := lt_of_block R4.out
    have hq2 : w1.heap.size ≤ w2.heap.size := by have := hb2'.size; exact this
    have hz4 := hu4.size
    have t3 := (R3.out.run HB3.out).upd hu4 (by omega)
    have t4 := (R4.out.run HB3.out).upd hu4 (by omega)
    have hss : RowAt w4 w2.heap.size 124 #[.int .u64 i', .int .i64 s', .int .i64 t', .slice da' dn' dc', .slice fa' fn' fc', .slice la' ln' lc'] := hs4
    have hb5 : Below w.heap.size w w4 := below_of_upd (below_run HB1.out HB3.out) hu4 (by omega)
    have T3 := Lib.hid t3
    have T4 := Lib.hid t4
    have W5h := Lib.hid hw4
    have M5h := Lib.hid hms
    have B5 := Lib.hid hb5
    obtain ⟨p1, p2, p3, p4, p5, p6⟩ := row_facts hss
    obtain ⟨m1, m2, m3, m4, m5, m6⟩ := row_facts t3
    obtain ⟨n1', n2', n3', n4', n5', n6'⟩ := row_facts t4
    have c0 := cell_fact hss 0
    have c1 := cell_fact hss 1
    have c2 := cell_fact hss 2
    have c3 := cell_fact hss 3
    have c4 := cell_fact hss 4
    have c5 := cell_fact hss 5
    simp only [List.getElem?_toArray] at c0 c1 c2 c3 c4 c5
    have g1 : ¬ w2.heap.size = w.heap.size + 3 := by omega
    have g2 : ¬ w2.heap.size = w.heap.size + 4 := by omega
    have g7 : ¬ w.heap.size + 3 = w2.heap.size := by omega
    have g8 : ¬ w.heap.size + 4 = w2.heap.size := by omega
    clear p1 t3 t4 hss hb5 hs4 hw4 hu4 hms z1 z2 z3 z4 z5 z6 hz1 hz3 hq3 hq5 hq2 hz4 hb2 hb2' C4
    go_wp2_with fail
    go_region_held3 (fun w' => w'.cell? ⟨w2.heap.size, 0, none⟩ = some (.int .u64 i') ∧ w'.cell? ⟨w2.heap.size, 1, none⟩ = some (.int .i64 s') ∧ w'.cell? ⟨w2.heap.size, 2, none⟩ = some (.int .i64 t') ∧ w'.cell? ⟨w2.heap.size, 3, none⟩ = some (.slice da' dn' dc') ∧ w'.cell? ⟨w2.heap.size, 4, none⟩ = some (.slice fa' fn' fc') ∧ w'.cell? ⟨w2.heap.size, 5, none⟩ = some (.slice la' ln' lc')) (go_keep) (fail)
    all_goals go_wp2
    have hF3 : RowAt ((((((w4.setCell ⟨w.heap.size + 3, 0, none⟩ (.int .u64 i')).setCell ⟨w.heap.size + 3, 1, none⟩ (.int .i64 s')).setCell ⟨w.heap.size + 3, 2, none⟩ (.int .i64 t')).setCell ⟨w.heap.size + 4, 0, none⟩ (.slice da' dn' dc')).setCell ⟨w.heap.size + 4, 1, none⟩ (.slice fa' fn' fc')).setCell ⟨w.heap.size + 4, 2, none⟩ (.slice la' ln' lc')) (w.heap.size + 3) 24 #[.int .u64 i', .int .i64 s', .int .i64 t'] := (row3 T3.out).far3 (by omega)
    have hF4 : RowAt ((((((w4.setCell ⟨w.heap.size + 3, 0, none⟩ (.int .u64 i')).setCell ⟨w.heap.size + 3, 1, none⟩ (.int .i64 s')).setCell ⟨w.heap.size + 3, 2, none⟩ (.int .i64 t')).setCell ⟨w.heap.size + 4, 0, none⟩ (.slice da' dn' dc')).setCell ⟨w.heap.size + 4, 1, none⟩ (.slice fa' fn' fc')).setCell ⟨w.heap.size + 4, 2, none⟩ (.slice la' ln' lc')) (w.heap.size + 4) 29 #[.slice da' dn' dc', .slice fa' fn' fc', .slice la' ln' lc'] := row3 (T4.out.far3 (by omega))
    have hFW : WireT ((((((w4.setCell ⟨w.heap.size + 3, 0, none⟩ (.int .u64 i')).setCell ⟨w.heap.size + 3, 1, none⟩ (.int .i64 s')).setCell ⟨w.heap.size + 3, 2, none⟩ (.int .i64 t')).setCell ⟨w.heap.size + 4, 0, none⟩ (.slice da' dn' dc')).setCell ⟨w.heap.size + 4, 1, none⟩ (.slice fa' fn' fc')).setCell ⟨w.heap.size + 4, 2, none⟩ (.slice la' ln' lc')) (.slice da' dn' dc') (.slice fa' fn' fc') (.slice la' ln' lc') y' := wire3 (wire3 W5h.out T3.out (by decide) (by decide) (by decide)) (T4.out.far3 (by omega)) (by decide) (by decide) (by decide)
    have hFB : Below w.heap.size w ((((((w4.setCell ⟨w.heap.size + 3, 0, none⟩ (.int .u64 i')).setCell ⟨w.heap.size + 3, 1, none⟩ (.int .i64 s')).setCell ⟨w.heap.size + 3, 2, none⟩ (.int .i64 t')).setCell ⟨w.heap.size + 4, 0, none⟩ (.slice da' dn' dc')).setCell ⟨w.heap.size + 4, 1, none⟩ (.slice fa' fn' fc')).setCell ⟨w.heap.size + 4, 2, none⟩ (.slice la' ln' lc')) := below_three (below_three B5.out (by omega)) (by omega)
    have hFM : MsgsAt ((((((w4.setCell ⟨w.heap.size + 3, 0, none⟩ (.int .u64 i')).setCell ⟨w.heap.size + 3, 1, none⟩ (.int .i64 s')).setCell ⟨w.heap.size + 3, 2, none⟩ (.int .i64 t')).setCell ⟨w.heap.size + 4, 0, none⟩ (.slice da' dn' dc')).setCell ⟨w.heap.size + 4, 1, none⟩ (.slice fa' fn' fc')).setCell ⟨w.heap.size + 4, 2, none⟩ (.slice la' ln' lc')) (.slice ma mn mc) L := msgs_small (msgs_small M5h.out T3.out (by decide) upd3) (T4.out.far3 (by omega)) (by decide) upd3
    have f30 := cell_fact hF3 0
    have f31 := cell_fact hF3 1
    have f32 := cell_fact hF3 2
    have f40 := cell_fact hF4 0
    have f41 := cell_fact hF4 1
    have f42 := cell_fact hF4 2
    simp only [List.getElem?_toArray] at f30 f31 f32 f40 f41 f42
    rw [HUU.out]
    refine bodyPost_ret (v := .tuple #[.agg #[.int .u64 i', .int .i64 s', .int .i64 t'], .agg #[.slice da' dn' dc', .slice fa' fn' fc', .slice la' ln' lc'], .slice ma mn mc, .int .i64 0]) ?_ rfl ⟨da', fa', la', ma, dn', dc', fn', fc', ln', lc', mn, mc, rfl, ?_, ?_, ?_⟩
    · simp [results, Tryz.results34, go_sem, f30, f31, f32, f40, f41, f42]
    · exact hFW.drew
    · exact hFM.drew
    · exact Below.drew hFB
  · have e9 : (E != 0) = true := by simpa using hz
    have hU : sendU ⟨id, seq, tries⟩ y ⟨dst, kind, par, dat⟩ = (zeroMgr, zeroWre, []) := by rw [sendU, if_neg (by rw [HE.out]; exact hz)]
    have HUU := Lib.hid hU
    obtain ⟨x1, x2, x3, x4, x5, x6⟩ := row_facts r3
    obtain ⟨y1, y2, y3, y4, y5, y6⟩ := row_facts r4
    have R3 := Lib.hid r3
    have R4 := Lib.hid r4
    clear hz hU r0 r1 r2 r3 r4
    go_wp2
    have hF3 : RowAt ((((((w1.setCell ⟨w.heap.size + 3, 0, none⟩ (.int .u64 0)).setCell ⟨w.heap.size + 3, 1, none⟩ (.int .i64 0)).setCell ⟨w.heap.size + 3, 2, none⟩ (.int .i64 0)).setCell ⟨w.heap.size + 4, 0, none⟩ (.slice none 0 0)).setCell ⟨w.heap.size + 4, 1, none⟩ (.slice none 0 0)).setCell ⟨w.heap.size + 4, 2, none⟩ (.slice none 0 0)) (w.heap.size + 3) 24 #[.int .u64 0, .int .i64 0, .int .i64 0] := (row3 R3.out).far3 (by omega)
    have hF4 : RowAt ((((((w1.setCell ⟨w.heap.size + 3, 0, none⟩ (.int .u64 0)).setCell ⟨w.heap.size + 3, 1, none⟩ (.int .i64 0)).setCell ⟨w.heap.size + 3, 2, none⟩ (.int .i64 0)).setCell ⟨w.heap.size + 4, 0, none⟩ (.slice none 0 0)).setCell ⟨w.heap.size + 4, 1, none⟩ (.slice none 0 0)).setCell ⟨w.heap.size + 4, 2, none⟩ (.slice none 0 0)) (w.heap.size + 4) 29 #[.slice none 0 0, .slice none 0 0, .slice none 0 0] := row3 (R4.out.far3 (by omega))
    have hFW : WireT ((((((w1.setCell ⟨w.heap.size + 3, 0, none⟩ (.int .u64 0)).setCell ⟨w.heap.size + 3, 1, none⟩ (.int .i64 0)).setCell ⟨w.heap.size + 3, 2, none⟩ (.int .i64 0)).setCell ⟨w.heap.size + 4, 0, none⟩ (.slice none 0 0)).setCell ⟨w.heap.size + 4, 1, none⟩ (.slice none 0 0)).setCell ⟨w.heap.size + 4, 2, none⟩ (.slice none 0 0)) (.slice none 0 0) (.slice none 0 0) (.slice none 0 0) zeroWre := wire3 (wire3 (wire_zero _) R3.out (by decide) (by decide) (by decide)) (R4.out.far3 (by omega)) (by decide) (by decide) (by decide)
    have hFB : Below w.heap.size w ((((((w1.setCell ⟨w.heap.size + 3, 0, none⟩ (.int .u64 0)).setCell ⟨w.heap.size + 3, 1, none⟩ (.int .i64 0)).setCell ⟨w.heap.size + 3, 2, none⟩ (.int .i64 0)).setCell ⟨w.heap.size + 4, 0, none⟩ (.slice none 0 0)).setCell ⟨w.heap.size + 4, 1, none⟩ (.slice none 0 0)).setCell ⟨w.heap.size + 4, 2, none⟩ (.slice none 0 0)) := below_three (below_three HB1.out (by omega)) (by omega)
    have f30 := cell_fact hF3 0
    have f31 := cell_fact hF3 1
    have f32 := cell_fact hF3 2
    have f40 := cell_fact hF4 0
    have f41 := cell_fact hF4 1
    have f42 := cell_fact hF4 2
    simp only [List.getElem?_toArray] at f30 f31 f32 f40 f41 f42
    rw [HUU.out]
    refine bodyPost_ret (v := .tuple #[.agg #[.int .u64 0, .int .i64 0, .int .i64 0], .agg #[.slice none 0 0, .slice none 0 0, .slice none 0 0], .slice none 0 0, .int .i64 E]) ?_ rfl ⟨none, none, none, none, 0, 0, 0, 0, 0, 0, 0, 0, rfl, ?_, ?_, ?_⟩
    · simp [results, Tryz.results34, go_sem, f30, f31, f32, f40, f41, f42]
    · exact hFW
    · exact .inl ⟨rfl, _, _, rfl⟩
    · exact hFB
end Go.Proofs.YtpjmhhfpjhmiiaaGreat
