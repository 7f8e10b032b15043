/-
  The walk of the law ManagerChecks.
-/
import Derived.Test.YtpjmhhfpjhmiiaaGreatQf
import Derived.Test.YtpjmhhfpjhmiiaaGreatQi
import Derived.Test.YtpjmhhfpjhmiiaaGreatQh
namespace Go.Proofs.YtpjmhhfpjhmiiaaGreat
open Go.RowKit Go.Shelf

theorem few_small {y : Wre} (h : fewW y = true) : y.devs.length ≤ 128 ∧ (∀ d ∈ y.devs, d.lb.size ≤ 100) ∧ (y.faults.length ≤ 100 ∨ 4096 < y.faults.length) ∧ y.late.length ≤ 100 ∧ ∀ s ∈ y.late, s.size ≤ 300 ∨ 4096 < s.size := by
  unfold fewW fewAll at h
  simp only [Bool.and_eq_true, Bool.or_eq_true, Bool.not_eq_true', decide_eq_true_eq, List.all_eq_true] at h
  obtain ⟨h1, ⟨⟨h2, h3⟩, h4⟩, h5⟩ := h
  refine ⟨h2, h3, h4, h5, fun s hs => ?_⟩
  rw [List.take_of_length_le (by omega)] at h1
  have := List.any_eq_false.1 h1 s hs
  unfold midText at this
  simp at this
  omega
/-- A contract of a call, behind all that leaves old memory alone. -/
theorem lift_below {P : Program} {f : FuncId} {args : Array Value} {V W : World} {Q : Ending → World → Prop} (h : Below V.heap.size V W) (c : Calls P f args W fun e w' => Q e w' ∧ Below W.heap.size W w') : Calls P f args W fun e w' => Q e w' ∧ Below V.heap.size V w' :=
  c.mono fun _ _ ⟨a, b⟩ => ⟨a, below_run h b⟩

set_option maxHeartbeats 8000000 in
set_option maxRecDepth 100000 in
theorem law_checks (x : Mgr) (da fa la : Option Addr) (dn dc fn fc ln lc : Nat) (y : Wre) (id tries : Int) (w : World) (h : WireAt w (.slice da dn dc) (.slice fa fn fc) (.slice la ln lc) y) (hr : y.devs.length * 56 ≤ 140737488351232) :
    Calls Tryz.prog 3 #[.agg #[.int .u64 x.id, .int .i64 x.seq, .int .i64 x.tries, .slice da dn dc, .slice fa fn fc, .slice la ln lc], .int .u64 id, .int .i64 tries] w fun e w' => e = .returned (.bool true) ∧ Below w.heap.size w w' := by
  obtain ⟨xi, xs, xt⟩ := x
  show Calls Tryz.prog 3 #[.agg #[.int .u64 xi, .int .i64 xs, .int .i64 xt, .slice da dn dc, .slice fa fn fc, .slice la ln lc], _, _] w _
  obtain ⟨W, hW⟩ : ∃ W, w.alloc (.cells #[.int .u64 xi, .int .i64 xs, .int .i64 xt, .slice da dn dc, .slice fa fn fc, .slice la ln lc] 31) = W := ⟨_, rfl⟩
  have hbW : Below w.heap.size w W := by rw [← hW]; (repeat' (first | (with_reducible exact Below.refl _ _) | (with_reducible assumption) | (with_reducible refine below_run ?_ (by assumption)) | (with_reducible refine below_of_upd ?_ (by assumption) ?_) | (with_reducible refine below_drewN ?_ _) | (with_reducible refine Below.drew ?_) | (with_reducible refine below_seven ?_ ?_) | (with_reducible refine below_six ?_ ?_) | (with_reducible refine below_one ?_ ?_) | (with_reducible refine Below.alloc ?_ ?_ _) | (with_reducible refine below_after ?_ ?_ (by assumption)) | (show _ ≤ _; first | omega | (simp; done) | (simp; omega))))
  have r0 : RowAt W w.heap.size 31 #[.int .u64 xi, .int .i64 xs, .int .i64 xt, .slice da dn dc, .slice fa fn fc, .slice la ln lc] := by rw [← hW]; exact RowAt.new _ _ _
  obtain ⟨q, hq⟩ : ∃ q, fewW y = q := ⟨_, rfl⟩
  have H := Lib.hid (h.run hbW)
  have HB := Lib.hid hbW
  have HQ := Lib.hid hq
  have R0 := Lib.hid r0
  have CO := Lib.hid (fun W hv => wof_any da fa la dn dc fn fc ln lc y W hv hr)
  have CF := Lib.hid (fun a c W hv => rfew_any q a fa la y.devs.length c fn fc ln lc y W hv hq)
  obtain ⟨x1, x2, x3, x4, x5, x6⟩ := row_facts r0
  clear h r0 hbW hq
  go_enter Tryz.func3, Tryz.ntmps3
  go_upto_region 1 with fail
  clear hW
  go_wp2_with fail
  refine (CO.out _ H.out).mono ?_
  rintro e w1 ⟨a1, c1, rfl, hw1, hb1⟩
  have HW1 := Lib.hid hw1
  have HB1 := Lib.hid (below_run HB.out hb1)
  have H1 := Lib.hid (H.out.run hb1)
  have R1 := Lib.hid (R0.out.run hb1)
  clear hb1 hw1 H R0 HB
  go_wp2_with fail
  refine (CF.out _ _ _ HW1.out).mono ?_
  rintro e w2 ⟨rfl, hb2⟩
  have HB2 := Lib.hid (below_run HB1.out hb2)
  have H2 := Lib.hid (H1.out.run hb2)
  have R2 := Lib.hid (R1.out.run hb2)
  clear hb2 H1 R1 HB1 HW1 x1 x2 x3 x4 x5 x6
  cases q with
  | false =>
    go_wp2_with fail
    refine (awake49_any _).mono ?_
    rintro e w3 ⟨rfl, hb3⟩
    go_wp2
    go_ret
    exact ⟨rfl, below_run HB2.out hb3⟩
  | true =>
    have hsm := few_small HQ.out
    have hlb : ∀ d ∈ y.devs, d.lb.size ≤ 9223372036854775807 := fun d hd => by
      have := hsm.2.1 d hd
      omega
    obtain ⟨E, hE⟩ : ∃ E, wireE y = E := ⟨_, rfl⟩
    obtain ⟨M, hM⟩ : ∃ M, mgrE ⟨xi, xs, xt⟩ = M := ⟨_, rfl⟩
    obtain ⟨⟨ni, ns, nt⟩, hnm⟩ : ∃ m, newMgr id tries = m := ⟨_, rfl⟩
    obtain ⟨N, hN⟩ : ∃ N, mgrE ⟨id, 0, tries⟩ = N := ⟨_, rfl⟩
    have CN := Lib.hid (fun W => mnew_any id tries W)
    have CP := Lib.hid (fun W => rmnew_any id tries W)
    rw [hnm, hN] at CN CP
    have C1 := Lib.hid (fun V W (hv : WireAt V (.slice da dn dc) (.slice fa fn fc) (.slice la ln lc) y) (hb : Below V.heap.size V W) => lift_below hb (mcheck_any E da fa la dn dc fn fc ln lc y W (hv.run hb) hE))
    have C3 := Lib.hid (fun V W a c (hv : WireAt W (.slice a y.devs.length c) (.slice fa fn fc) (.slice la ln lc) y) (hb : Below V.heap.size V W) => lift_below hb (rcheck_any E a fa la y.devs.length c fn fc ln lc y W hv.r hE hlb))
    have C4 := Lib.hid (fun V W (hb : Below V.heap.size V W) => lift_below hb (mright_any xi xs xt M hM W))
    have C5 := Lib.hid (fun V W (hb : Below V.heap.size V W) => lift_below hb (rmright_any xi xs xt M hM W))
    have C6 := Lib.hid (fun V W (hb : Below V.heap.size V W) => lift_below hb (awake49_any W))
    clear hE hM hnm hN hsm hlb
    go_wp2_with fail
    refine (CN.out _).mono ?_
    rintro e w3 ⟨rfl, hb3⟩
    have HB3 := Lib.hid ((below_run HB2.out hb3).alloc (below_run HB2.out hb3).size (.cells #[.int .u64 ni, .int .i64 ns, .int .i64 nt] 24))
    have H3 := Lib.hid ((H2.out.run hb3).run ((Below.refl w3.heap.size w3).alloc (Nat.le_refl _) (.cells #[.int .u64 ni, .int .i64 ns, .int .i64 nt] 24)))
    have R3 := Lib.hid ((R2.out.run hb3).alloc (.cells #[.int .u64 ni, .int .i64 ns, .int .i64 nt] 24))
    have M3 := Lib.hid (RowAt.new w3 24 #[.int .u64 ni, .int .i64 ns, .int .i64 nt])
    clear hb3 HB2 H2 R2 CN
    go_wp2_with fail
    refine (CP.out _).mono ?_
    rintro e w4 ⟨rfl, hb4⟩
    have HB4 := Lib.hid ((below_run HB3.out hb4).alloc (below_run HB3.out hb4).size (.cells #[.int .u64 ni, .int .i64 ns, .int .i64 nt] 41))
    have H4 := Lib.hid ((H3.out.run hb4).run ((Below.refl w4.heap.size w4).alloc (Nat.le_refl _) (.cells #[.int .u64 ni, .int .i64 ns, .int .i64 nt] 41)))
    have r4 := (R3.out.run hb4).alloc (.cells #[.int .u64 ni, .int .i64 ns, .int .i64 nt] 41)
    have m4 := (M3.out.run hb4).alloc (.cells #[.int .u64 ni, .int .i64 ns, .int .i64 nt] 41)
    have n4 := RowAt.new w4 41 #[.int .u64 ni, .int .i64 ns, .int .i64 nt]
    clear hb4 HB3 H3 R3 M3 CP
    go_upto_region 5 with fail
    generalize w4.alloc (.cells #[.int .u64 ni, .int .i64 ns, .int .i64 nt] 41) = W5 at r4 m4 n4 HB4 H4 ⊢
    generalize w4.heap.size = k9 at n4 ⊢
    generalize w3.heap.size = k7 at m4 ⊢
    have hkeep : ∀ W', Below W5.heap.size W5 W' → (W'.cell? ⟨w.heap.size, 0, none⟩ = some (.int .u64 xi) ∧ W'.cell? ⟨w.heap.size, 1, none⟩ = some (.int .i64 xs) ∧ W'.cell? ⟨w.heap.size, 2, none⟩ = some (.int .i64 xt) ∧ W'.cell? ⟨w.heap.size, 3, none⟩ = some (.slice da dn dc) ∧ W'.cell? ⟨w.heap.size, 4, none⟩ = some (.slice fa fn fc) ∧ W'.cell? ⟨w.heap.size, 5, none⟩ = some (.slice la ln lc) ∧
        W'.cell? ⟨k7, 0, none⟩ = some (.int .u64 ni) ∧ W'.cell? ⟨k7, 1, none⟩ = some (.int .i64 ns) ∧ W'.cell? ⟨k7, 2, none⟩ = some (.int .i64 nt) ∧ W'.cell? ⟨k9, 0, none⟩ = some (.int .u64 ni) ∧ W'.cell? ⟨k9, 1, none⟩ = some (.int .i64 ns) ∧ W'.cell? ⟨k9, 2, none⟩ = some (.int .i64 nt)) := by
      intro W' hb
      have r := r4.run hb
      have m := m4.run hb
      have n := n4.run hb
      exact ⟨cell_fact r 0, cell_fact r 1, cell_fact r 2, cell_fact r 3, cell_fact r 4, cell_fact r 5, cell_fact m 0, cell_fact m 1, cell_fact m 2, cell_fact n 0, cell_fact n 1, cell_fact n 2⟩
    have HK := Lib.hid hkeep
    have hbd : Below W5.heap.size W5 W5.drew := Below.drew (Below.refl _ _)
    have hk0 := hkeep W5 (Below.refl _ _)
    obtain ⟨g0, g1, g2, g3, g4, g5, g6, g7, g8, g9, g10, g11⟩ := hk0
    have z1 : (E == E) = true := by simp
    have z2 : (M == M) = true := by simp
    have z3 : (N == N) = true := by simp
    clear hkeep r4 m4 n4
    go_region_held3 (fun W' => W'.cell? ⟨w.heap.size, 0, none⟩ = some (.int .u64 xi) ∧ W'.cell? ⟨w.heap.size, 1, none⟩ = some (.int .i64 xs) ∧ W'.cell? ⟨w.heap.size, 2, none⟩ = some (.int .i64 xt) ∧ W'.cell? ⟨w.heap.size, 3, none⟩ = some (.slice da dn dc) ∧ W'.cell? ⟨w.heap.size, 4, none⟩ = some (.slice fa fn fc) ∧ W'.cell? ⟨w.heap.size, 5, none⟩ = some (.slice la ln lc) ∧
        W'.cell? ⟨k7, 0, none⟩ = some (.int .u64 ni) ∧ W'.cell? ⟨k7, 1, none⟩ = some (.int .i64 ns) ∧ W'.cell? ⟨k7, 2, none⟩ = some (.int .i64 nt) ∧ W'.cell? ⟨k9, 0, none⟩ = some (.int .u64 ni) ∧ W'.cell? ⟨k9, 1, none⟩ = some (.int .i64 ns) ∧ W'.cell? ⟨k9, 2, none⟩ = some (.int .i64 nt))
      (first | go_keep | exact HK.out _ (by assumption))
      (first
        | (go_at_call 18; refine (C1.out W5 _ H4.out (by assumption)).mono ?_; rintro e u1 ⟨rfl, hc1⟩)
        | (go_at_call 14; refine (CO.out _ (H4.out.run (by assumption))).mono ?_; rintro e u2 ⟨a2, c2, rfl, hw2, hb2⟩; have hc2 : Below W5.heap.size W5 u2 := below_run (by assumption) hb2; clear hb2)
        | (go_at_call 19; refine (C3.out W5 _ _ _ hw2 (by assumption)).mono ?_; rintro e u3 ⟨rfl, hc3⟩)
        | (go_at_call 20; refine (C4.out W5 _ (by assumption)).mono ?_; rintro e u4 ⟨rfl, hc4⟩)
        | (go_at_call 21; refine (C5.out W5 _ (by assumption)).mono ?_; rintro e u5 ⟨rfl, hc5⟩)
        | (go_at_call 15; refine (C6.out W5 _ (by assumption)).mono ?_; rintro e u6 ⟨rfl, hc6⟩))
    all_goals go_wp2
    all_goals go_ret
    all_goals exact ⟨rfl, below_run HB4.out hc6⟩
end Go.Proofs.YtpjmhhfpjhmiiaaGreat
