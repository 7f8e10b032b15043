/-
  The reference's devices that are unmuted; Find.
-/
import Derived.Test.YtiemdccjphdbmaaGreatRf
import Derived.Test.YtiemdccjphdbmaaGreatAk
import Derived.Deep.RegionWith
namespace Go.Proofs.YtiemdccjphdbmaaGreat
open Go.RowKit

theorem start_par {w : World} {l : List Dev} {da : Option Addr} {dn dc : Nat} (h : DevsAt w (.slice da dn dc) l) : RPar w (.slice none 0 0) (.slice da dn dc) (.slice none 0 0) (startS l 0) :=
  ⟨.inl ⟨rfl, _, _, rfl⟩, typed_nil _ _ _ _, h, .inl ⟨rfl, _, _, rfl⟩, typed_nil _ _ _ _, fun _ _ e => by cases e; rfl, fun _ _ e => by cases e; rfl⟩

set_option maxHeartbeats 4000000 in
set_option maxRecDepth 100000 in
theorem runmuted_any (v : Value) (l : List Dev) (src : Int) (w : World) (hv : DevsAt w v l) (hok : Sok src (startS l 0)) :
    Calls Tryz.prog 49 #[v, .int .u64 src] w fun e w' => ∃ y, e = .returned y ∧ RSt w' src (unmS src l) y ∧ Below w.heap.size w w' := by
  obtain ⟨da, dn, dc, rfl⟩ := slice_of hv
  have CO := Lib.hid (fun W => rorder_any (.slice none 0 0) (.slice da dn dc) (.slice none 0 0) src 0 0 3 281474976710655 W ⟨_, _, _, rfl⟩ ⟨_, _, _, rfl⟩ ⟨_, _, _, rfl⟩)
  have CS0 := fun W h => rsend_any none da none 0 0 dn dc 0 0 src (startS l 0) 281474976710655 src 0 3 0 ⟨#[]⟩ W h hok.devs (unm_chk hok) hok.q0 hok.q1
  have e1 : IntKind.i64.wrap ((startS l 0).msgs : Int) = 0 := by show IntKind.i64.wrap ((0 : Nat) : Int) = 0; decide
  have e2 : (startS l 0).seq = 0 := rfl
  rw [e1, e2] at CS0
  have CS := Lib.hid CS0
  have HU : Hid (sendS (startS l 0) ⟨281474976710655, src, 0, 3, 0, ⟨#[]⟩⟩ = unmS src l) := rfl
  have HV := Lib.hid hv
  clear hv hok CS0 e1 e2
  go_enter Tryz.func49, Tryz.ntmps49
  go_upto_region 2 with fail
  have r0 : RowAt ((w.alloc (.cells #[.slice none 0 0, .slice none 0 0, .int .u64 0, .int .i64 0, .slice none 0 0, .int .i64 0] 86)).alloc (.cells #[.slice none 0 0, .slice da dn dc, .int .u64 src, .int .i64 0, .slice none 0 0, .int .i64 0] 86)) w.heap.size 86 #[.slice none 0 0, .slice none 0 0, .int .u64 0, .int .i64 0, .slice none 0 0, .int .i64 0] := (RowAt.new _ _ _).alloc _
  have r1 : RowAt ((w.alloc (.cells #[.slice none 0 0, .slice none 0 0, .int .u64 0, .int .i64 0, .slice none 0 0, .int .i64 0] 86)).alloc (.cells #[.slice none 0 0, .slice da dn dc, .int .u64 src, .int .i64 0, .slice none 0 0, .int .i64 0] 86)) (w.heap.size + 1) 86 #[.slice none 0 0, .slice da dn dc, .int .u64 src, .int .i64 0, .slice none 0 0, .int .i64 0] := RowAt.mk (by simp) rfl
  have hbW : Below w.heap.size w ((w.alloc (.cells #[.slice none 0 0, .slice none 0 0, .int .u64 0, .int .i64 0, .slice none 0 0, .int .i64 0] 86)).alloc (.cells #[.slice none 0 0, .slice da dn dc, .int .u64 src, .int .i64 0, .slice none 0 0, .int .i64 0] 86)) := by (repeat' (first | (with_reducible exact Below.refl _ _) | (with_reducible assumption) | (with_reducible refine below_run ?_ (by assumption)) | (with_reducible refine below_of_upd ?_ (by assumption) ?_) | (with_reducible refine below_drewN ?_ _) | (with_reducible refine Below.drew ?_) | (with_reducible refine below_seven ?_ ?_) | (with_reducible refine below_six ?_ ?_) | (with_reducible refine below_one ?_ ?_) | (with_reducible refine Below.alloc ?_ ?_ _) | (with_reducible refine below_after ?_ ?_ (by assumption)) | (show _ ≤ _; first | omega | (simp; done) | (simp; omega))))
  have hv0 := (HV.out.alloc (.cells #[.slice none 0 0, .slice none 0 0, .int .u64 0, .int .i64 0, .slice none 0 0, .int .i64 0] 86)).alloc (.cells #[.slice none 0 0, .slice da dn dc, .int .u64 src, .int .i64 0, .slice none 0 0, .int .i64 0] 86)
  generalize ((w.alloc (.cells #[.slice none 0 0, .slice none 0 0, .int .u64 0, .int .i64 0, .slice none 0 0, .int .i64 0] 86)).alloc (.cells #[.slice none 0 0, .slice da dn dc, .int .u64 src, .int .i64 0, .slice none 0 0, .int .i64 0] 86)) = W at r0 r1 hbW hv0 ⊢
  have HR0 := Lib.hid r0
  have HR1 := Lib.hid r1
  have HBW := Lib.hid hbW
  have HV0 := Lib.hid hv0
  obtain ⟨x1, x2, x3, x4, x5, x6⟩ := row_facts r1
  have hltW := lt_of_block r1
  clear r0 r1 hbW hv0 HV
  go_region_with
    (first
      | (go_at_call 85; refine (CO.out _).mono ?_; rintro e w1 ⟨rfl, hb10⟩; have hb1 : Below W.heap.size W w1 := (by first | exact hb10 | exact below_undrew hb10); clear hb10; have s0 := HR0.out.run hb1; have s1 := HR1.out.run hb1; have HV1 := Lib.hid (HV0.out.run hb1); have HB1 := Lib.hid (below_run HBW.out hb1); obtain ⟨a1, a2, a3, a4, a5, a6⟩ := row_facts s1; have HS0 := Lib.hid s0; have HS1 := Lib.hid s1; clear s0 s1 hb1)
      | (go_at_call 84; refine (CS.out _ (start_par (by exact HV1.out))).mono ?_; rintro e w2 ⟨y, v2, rfl, hy, -, hb20⟩; have hb2 : Below w1.heap.size w1 w2 := (by first | exact hb20 | exact below_undrew hb20); clear hb20; have t0 := HS0.out.run hb2; have t1 := HS1.out.run hb2; have HB2 := Lib.hid (below_run HB1.out hb2); have hy' : RSt w2 src (unmS src l) y := (by rw [← HU.out]; exact hy); clear hy; obtain ⟨xa, xn, xc, ya, yn, yc, za, zn, zc, rfl, hpar⟩ := hy'; obtain ⟨Q, hQ⟩ : ∃ Q, (unmS src l).seq = Q := ⟨_, rfl⟩; obtain ⟨N, hN⟩ : ∃ N, IntKind.i64.wrap ((unmS src l).msgs : Int) = N := ⟨_, rfl⟩; rw [stA, hQ, hN]; have HQN := Lib.hid (And.intro hQ hN); clear hQ hN; obtain ⟨b1, b2, b3, b4, b5, b6⟩ := row_facts t1; obtain ⟨c1, c2, c3, c4, c5, c6⟩ := row_facts t0; have HT0 := Lib.hid t0; have HT1 := Lib.hid t1; have HPAR := Lib.hid hpar; clear t0 t1 hb2 hpar))
  all_goals (try go_simp)
  all_goals go_wp2
  all_goals
    have M1 : Mine w2 (w.heap.size + 1) := ⟨_, HT1.out, rfl, _, _, _, rfl⟩
    have M0 : Mine w2 (w.heap.size) := ⟨_, HT0.out, rfl, _, _, _, rfl⟩
    have hne : ¬ w.heap.size = w.heap.size + 1 := by omega
    have F : RowAt ((((((((((((w2.setCell ⟨w.heap.size + 1, 0, none⟩ (.slice xa xn xc)).setCell ⟨w.heap.size + 1, 1, none⟩ (.slice ya yn yc)).setCell ⟨w.heap.size + 1, 2, none⟩ (.int .u64 src)).setCell ⟨w.heap.size + 1, 3, none⟩ (.int .i64 Q)).setCell ⟨w.heap.size + 1, 4, none⟩ (.slice za zn zc)).setCell ⟨w.heap.size + 1, 5, none⟩ (.int .i64 N)).setCell ⟨w.heap.size, 0, none⟩ (.slice xa xn xc)).setCell ⟨w.heap.size, 1, none⟩ (.slice ya yn yc)).setCell ⟨w.heap.size, 2, none⟩ (.int .u64 src)).setCell ⟨w.heap.size, 3, none⟩ (.int .i64 Q)).setCell ⟨w.heap.size, 4, none⟩ (.slice za zn zc)).setCell ⟨w.heap.size, 5, none⟩ (.int .i64 N)) w.heap.size 86 #[.slice xa xn xc, .slice ya yn yc, .int .u64 src, .int .i64 Q, .slice za zn zc, .int .i64 N] ∧ Own6 w2 ((((((((((((w2.setCell ⟨w.heap.size + 1, 0, none⟩ (.slice xa xn xc)).setCell ⟨w.heap.size + 1, 1, none⟩ (.slice ya yn yc)).setCell ⟨w.heap.size + 1, 2, none⟩ (.int .u64 src)).setCell ⟨w.heap.size + 1, 3, none⟩ (.int .i64 Q)).setCell ⟨w.heap.size + 1, 4, none⟩ (.slice za zn zc)).setCell ⟨w.heap.size + 1, 5, none⟩ (.int .i64 N)).setCell ⟨w.heap.size, 0, none⟩ (.slice xa xn xc)).setCell ⟨w.heap.size, 1, none⟩ (.slice ya yn yc)).setCell ⟨w.heap.size, 2, none⟩ (.int .u64 src)).setCell ⟨w.heap.size, 3, none⟩ (.int .i64 Q)).setCell ⟨w.heap.size, 4, none⟩ (.slice za zn zc)).setCell ⟨w.heap.size, 5, none⟩ (.int .i64 N)) ∧ Below w.heap.size w ((((((((((((w2.setCell ⟨w.heap.size + 1, 0, none⟩ (.slice xa xn xc)).setCell ⟨w.heap.size + 1, 1, none⟩ (.slice ya yn yc)).setCell ⟨w.heap.size + 1, 2, none⟩ (.int .u64 src)).setCell ⟨w.heap.size + 1, 3, none⟩ (.int .i64 Q)).setCell ⟨w.heap.size + 1, 4, none⟩ (.slice za zn zc)).setCell ⟨w.heap.size + 1, 5, none⟩ (.int .i64 N)).setCell ⟨w.heap.size, 0, none⟩ (.slice xa xn xc)).setCell ⟨w.heap.size, 1, none⟩ (.slice ya yn yc)).setCell ⟨w.heap.size, 2, none⟩ (.int .u64 src)).setCell ⟨w.heap.size, 3, none⟩ (.int .i64 Q)).setCell ⟨w.heap.size, 4, none⟩ (.slice za zn zc)).setCell ⟨w.heap.size, 5, none⟩ (.int .i64 N)) := by
      have h1 := RowAt.six (v0 := .slice xa xn xc) (v1 := .slice ya yn yc) (v2 := .int .u64 src) (v3 := .int .i64 Q) (v4 := .slice za zn zc) (v5 := .int .i64 N) ((((((((HT0.out).far1 (g := w.heap.size + 1) (i := 0) (u := .slice xa xn xc) hne).far1 (g := w.heap.size + 1) (i := 1) (u := .slice ya yn yc) hne).far1 (g := w.heap.size + 1) (i := 2) (u := .int .u64 src) hne).far1 (g := w.heap.size + 1) (i := 3) (u := .int .i64 Q) hne).far1 (g := w.heap.size + 1) (i := 4) (u := .slice za zn zc) hne).far1 (g := w.heap.size + 1) (i := 5) (u := .int .i64 N) hne))
      have h2 := own6_set (i := 5) (own6_set (i := 4) (own6_set (i := 3) (own6_set (i := 2) (own6_set (i := 1) (own6_set (i := 0) (own6_set (i := 5) (own6_set (i := 4) (own6_set (i := 3) (own6_set (i := 2) (own6_set (i := 1) (own6_set (i := 0) (own6_refl w2) M1 (.slice xa xn xc)) M1 (.slice ya yn yc)) M1 (.int .u64 src)) M1 (.int .i64 Q)) M1 (.slice za zn zc)) M1 (.int .i64 N)) M0 (.slice xa xn xc)) M0 (.slice ya yn yc)) M0 (.int .u64 src)) M0 (.int .i64 Q)) M0 (.slice za zn zc)) M0 (.int .i64 N)
      refine ⟨h1, h2, ?_⟩
      have := HB2.out
      repeat' (first | (with_reducible assumption) | (with_reducible refine below_one ?_ (by omega)))
    generalize (((((((((((w2.setCell ⟨w.heap.size + 1, 0, none⟩ (.slice xa xn xc)).setCell ⟨w.heap.size + 1, 1, none⟩ (.slice ya yn yc)).setCell ⟨w.heap.size + 1, 2, none⟩ (.int .u64 src)).setCell ⟨w.heap.size + 1, 3, none⟩ (.int .i64 Q)).setCell ⟨w.heap.size + 1, 4, none⟩ (.slice za zn zc)).setCell ⟨w.heap.size + 1, 5, none⟩ (.int .i64 N)).setCell ⟨w.heap.size, 0, none⟩ (.slice xa xn xc)).setCell ⟨w.heap.size, 1, none⟩ (.slice ya yn yc)).setCell ⟨w.heap.size, 2, none⟩ (.int .u64 src)).setCell ⟨w.heap.size, 3, none⟩ (.int .i64 Q)).setCell ⟨w.heap.size, 4, none⟩ (.slice za zn zc)).setCell ⟨w.heap.size, 5, none⟩ (.int .i64 N) = wf at F ⊢
    obtain ⟨hr3, O, hbf⟩ := F
    refine bodyPost_ret (v := .agg #[.slice xa xn xc, .slice ya yn yc, .int .u64 src, .int .i64 Q, .slice za zn zc, .int .i64 N]) ?_ rfl ⟨_, rfl, ⟨xa, xn, xc, ya, yn, yc, za, zn, zc, by rw [stA, HQN.out.1, HQN.out.2], HPAR.out.six O⟩, hbf⟩
    simp [results, Tryz.results49, go_sem, cell_fact hr3]
end Go.Proofs.YtiemdccjphdbmaaGreat
