/-
  A range is searched: the reference.
-/
import Derived.Test.YtiemdccjphdbmaaGreatRd
import Derived.Test.YtiemdccjphdbmaaGreatSe
import Derived.Deep.LoopGhost
namespace Go.Proofs.YtiemdccjphdbmaaGreat
open Go.RowKit

/-- The contract of the search of a range, of some depth. -/
def SearchedSays (sr : Int) (d : Nat) : Prop := ∀ (ka da fa : Option Addr) (kn kc dn dc fn fc : Nat) (low high : Int) (t : SSt) (w : World), isId low = true → isId high = true → low ≤ high → high - low < 2 ^ d → Sok sr t → RPar w (.slice ka kn kc) (.slice da dn dc) (.slice fa fn fc) t →
    Calls Tryz.prog 41 #[.agg #[.slice ka kn kc, .slice da dn dc, .int .u64 sr, .int .i64 t.seq, .slice fa fn fc, .int .i64 (IntKind.i64.wrap t.msgs)], .int .u64 low, .int .u64 high] w fun e w' => ∃ y, e = .returned y ∧ RSt w' sr (searchS sr d low high t) y ∧ Below w.heap.size w w'

/-- A block holds a state. -/
def RBox (w : World) (b : Nat) (sr : Int) (t : SSt) : Prop := ∃ ka kn kc da dn dc fa fn fc, RowAt w b 86 #[.slice ka kn kc, .slice da dn dc, .int .u64 sr, .int .i64 t.seq, .slice fa fn fc, .int .i64 (IntKind.i64.wrap t.msgs)] ∧ RPar w (.slice ka kn kc) (.slice da dn dc) (.slice fa fn fc) t

set_option maxHeartbeats 8000000 in
set_option maxRecDepth 100000 in
theorem searched_body (sr : Int) (d : Nat) (ih : ∀ d', d = d' + 1 → SearchedSays sr d') : SearchedSays sr d := by
  intro ka da fa kn kc dn dc fn fc low high t w h1 h2 hle hd hok h
  obtain ⟨N, hN⟩ : ∃ N, IntKind.i64.wrap (t.msgs : Int) = N := ⟨_, rfl⟩
  have HIH := Lib.hid ih
  have H1 := Lib.hid h1
  have H2 := Lib.hid h2
  have HD := Lib.hid hd
  have HLE := Lib.hid hle
  have HOK := Lib.hid hok
  have HAO := Lib.hid (again_ok hok h1 h2)
  have C := Lib.hid (fun W hp => ragain_any ka da fa kn kc dn dc fn fc sr t low high W hp hok h1 h2 hle)
  obtain ⟨r, hr⟩ : ∃ r, againS sr low high t = r := ⟨_, rfl⟩
  have HRS := Lib.hid (round_step (src := sr) (low := low) (high := high) t)
  rw [hr] at C HAO HRS
  rw [hN] at C ⊢
  have hbw0 : Below w.heap.size w ((w.alloc (.cells #[.slice ka kn kc, .slice da dn dc, .int .u64 sr, .int .i64 t.seq, .slice fa fn fc, .int .i64 N] 86)).alloc (.cells #[.slice none 0 0, .slice none 0 0, .int .u64 0, .int .i64 0, .slice none 0 0, .int .i64 0] 86)) := by (repeat' (first | (with_reducible exact Below.refl _ _) | (with_reducible assumption) | (with_reducible refine below_run ?_ (by assumption)) | (with_reducible refine below_of_upd ?_ (by assumption) ?_) | (with_reducible refine below_drewN ?_ _) | (with_reducible refine Below.drew ?_) | (with_reducible refine below_seven ?_ ?_) | (with_reducible refine below_six ?_ ?_) | (with_reducible refine below_one ?_ ?_) | (with_reducible refine Below.alloc ?_ ?_ _) | (with_reducible refine below_after ?_ ?_ (by assumption)) | (show _ ≤ _; first | omega | (simp; done) | (simp; omega))))
  have HP0 := Lib.hid (h.run hbw0)
  have r0 : RowAt ((w.alloc (.cells #[.slice ka kn kc, .slice da dn dc, .int .u64 sr, .int .i64 t.seq, .slice fa fn fc, .int .i64 N] 86)).alloc (.cells #[.slice none 0 0, .slice none 0 0, .int .u64 0, .int .i64 0, .slice none 0 0, .int .i64 0] 86)) w.heap.size 86 #[.slice ka kn kc, .slice da dn dc, .int .u64 sr, .int .i64 t.seq, .slice fa fn fc, .int .i64 N] := (RowAt.new _ _ _).alloc _
  have r1 : RowAt ((w.alloc (.cells #[.slice ka kn kc, .slice da dn dc, .int .u64 sr, .int .i64 t.seq, .slice fa fn fc, .int .i64 N] 86)).alloc (.cells #[.slice none 0 0, .slice none 0 0, .int .u64 0, .int .i64 0, .slice none 0 0, .int .i64 0] 86)) (w.heap.size + 1) 86 #[.slice none 0 0, .slice none 0 0, .int .u64 0, .int .i64 0, .slice none 0 0, .int .i64 0] := RowAt.mk (by simp) rfl
  have HBW0 := Lib.hid hbw0
  have R0 := Lib.hid r0
  have R1 := Lib.hid r1
  have hne : ¬ w.heap.size + 1 = w.heap.size := by omega
  clear ih h1 h2 hd hle hok hr hN hbw0 r0 r1 h
  go_enter Tryz.func41, Tryz.ntmps41
  go_wp2_with fail
  refine (C.out _ HP0.out).mono ?_
  rintro e w1 ⟨y, rfl, hy, hb1⟩
  obtain ⟨xa, xn, xc, ya, yn, yc, za, zn, zc, rfl, hpar⟩ := hy
  obtain ⟨Q, hQ⟩ : ∃ Q, (r.1).seq = Q := ⟨_, rfl⟩
  obtain ⟨N', hN'⟩ : ∃ N', IntKind.i64.wrap ((r.1).msgs : Int) = N' := ⟨_, rfl⟩
  rw [stA, hQ, hN']
  have S0 := Lib.hid (R0.out.run hb1)
  have S1 := Lib.hid (R1.out.run hb1)
  have HB1 := Lib.hid (below_run HBW0.out hb1)
  have HPAR := Lib.hid hpar
  have HQN := Lib.hid (And.intro hQ hN')
  obtain ⟨b1, b2, b3, b4, b5, b6⟩ := row_facts S0.out
  have hle1 := HB1.out.size
  clear hb1 hpar hQ hN' C
  go_wp2_with fail
  have F2 : RowAt ((((((w1.setCell ⟨w.heap.size, 0, none⟩ (.slice xa xn xc)).setCell ⟨w.heap.size, 1, none⟩ (.slice ya yn yc)).setCell ⟨w.heap.size, 2, none⟩ (.int .u64 sr)).setCell ⟨w.heap.size, 3, none⟩ (.int .i64 Q)).setCell ⟨w.heap.size, 4, none⟩ (.slice za zn zc)).setCell ⟨w.heap.size, 5, none⟩ (.int .i64 N')) (w.heap.size) 86 #[.slice xa xn xc, .slice ya yn yc, .int .u64 sr, .int .i64 Q, .slice za zn zc, .int .i64 N'] ∧ Own6 w1 ((((((w1.setCell ⟨w.heap.size, 0, none⟩ (.slice xa xn xc)).setCell ⟨w.heap.size, 1, none⟩ (.slice ya yn yc)).setCell ⟨w.heap.size, 2, none⟩ (.int .u64 sr)).setCell ⟨w.heap.size, 3, none⟩ (.int .i64 Q)).setCell ⟨w.heap.size, 4, none⟩ (.slice za zn zc)).setCell ⟨w.heap.size, 5, none⟩ (.int .i64 N')) ∧ Below w.heap.size w ((((((w1.setCell ⟨w.heap.size, 0, none⟩ (.slice xa xn xc)).setCell ⟨w.heap.size, 1, none⟩ (.slice ya yn yc)).setCell ⟨w.heap.size, 2, none⟩ (.int .u64 sr)).setCell ⟨w.heap.size, 3, none⟩ (.int .i64 Q)).setCell ⟨w.heap.size, 4, none⟩ (.slice za zn zc)).setCell ⟨w.heap.size, 5, none⟩ (.int .i64 N')) ∧ RowAt ((((((w1.setCell ⟨w.heap.size, 0, none⟩ (.slice xa xn xc)).setCell ⟨w.heap.size, 1, none⟩ (.slice ya yn yc)).setCell ⟨w.heap.size, 2, none⟩ (.int .u64 sr)).setCell ⟨w.heap.size, 3, none⟩ (.int .i64 Q)).setCell ⟨w.heap.size, 4, none⟩ (.slice za zn zc)).setCell ⟨w.heap.size, 5, none⟩ (.int .i64 N')) (w.heap.size + 1) 86 #[.slice none 0 0, .slice none 0 0, .int .u64 0, .int .i64 0, .slice none 0 0, .int .i64 0] := by
    have M0 : Mine w1 w.heap.size := ⟨_, S0.out, rfl, _, _, _, rfl⟩
    have h1 := RowAt.six (v0 := .slice xa xn xc) (v1 := .slice ya yn yc) (v2 := .int .u64 sr) (v3 := .int .i64 Q) (v4 := .slice za zn zc) (v5 := .int .i64 N') (S0.out)
    have h2 := own6_set (i := 5) (own6_set (i := 4) (own6_set (i := 3) (own6_set (i := 2) (own6_set (i := 1) (own6_set (i := 0) (own6_refl w1) M0 (.slice xa xn xc)) M0 (.slice ya yn yc)) M0 (.int .u64 sr)) M0 (.int .i64 Q)) M0 (.slice za zn zc)) M0 (.int .i64 N')
    have h4 := ((((((S1.out).far1 (g := w.heap.size) (i := 0) (u := .slice xa xn xc) hne).far1 (g := w.heap.size) (i := 1) (u := .slice ya yn yc) hne).far1 (g := w.heap.size) (i := 2) (u := .int .u64 sr) hne).far1 (g := w.heap.size) (i := 3) (u := .int .i64 Q) hne).far1 (g := w.heap.size) (i := 4) (u := .slice za zn zc) hne).far1 (g := w.heap.size) (i := 5) (u := .int .i64 N') hne
    refine ⟨h1, h2, ?_, h4⟩
    have := HB1.out
    repeat' (first | (with_reducible assumption) | (with_reducible refine below_one ?_ (Nat.le_refl _)))
  generalize (((((w1.setCell ⟨w.heap.size, 0, none⟩ (.slice xa xn xc)).setCell ⟨w.heap.size, 1, none⟩ (.slice ya yn yc)).setCell ⟨w.heap.size, 2, none⟩ (.int .u64 sr)).setCell ⟨w.heap.size, 3, none⟩ (.int .i64 Q)).setCell ⟨w.heap.size, 4, none⟩ (.slice za zn zc)).setCell ⟨w.heap.size, 5, none⟩ (.int .i64 N') = w2 at F2 ⊢
  obtain ⟨t0, O2, hb2, t1⟩ := F2
  have T0 := Lib.hid t0
  have T1 := Lib.hid t1
  have HP2 := Lib.hid (HPAR.out.six O2)
  have HB2 := Lib.hid hb2
  have HBX : Hid (RBox w2 w.heap.size sr r.1) := by
    have hq := HQN.out
    refine ⟨xa, xn, xc, ya, yn, yc, za, zn, zc, ?_, HP2.out⟩
    rw [hq.1, hq.2]
    exact T0.out
  clear O2 t0 t1 hb2 b1 b2 b3 b4 b5 b6 HPAR HQN
  go_loopg [7, 8] (if r.2.1 then freeS r.1 + 1 else 0) (fun n mo dn wr => ∃ q : SSt × Bool × Bool, n = (if q.2.1 then freeS q.1 + 1 else 0) ∧ dn = .bool q.2.2 ∧ mo = .bool q.2.1 ∧ RBox wr w.heap.size sr q.1 ∧ RowAt wr (w.heap.size + 1) 86 #[.slice none 0 0, .slice none 0 0, .int .u64 0, .int .i64 0, .slice none 0 0, .int .i64 0] ∧ Sok sr q.1 ∧ Below w.heap.size w wr ∧
    Hid (roundS sr low high (freeS t + 1) t = if q.2.1 then roundS sr low high (freeS q.1 + 1) q.1 else (q.1, q.2.2)))
  case atStart => exact ⟨r, rfl, rfl, rfl, HBX.out, T1.out, HAO.out, HB2.out, HRS.out⟩
  case round =>
    obtain ⟨q, hn, rfl, rfl, hbx, hr1, hokq, hbq, heq⟩ := hrel
    obtain ⟨oa, on, oc, pa, pn, pc, qa, qn, qc, hr0, hpq⟩ := hbx
    obtain ⟨qt, qm, qe⟩ := q
    obtain ⟨Q1, hQ1⟩ : ∃ Q, qt.seq = Q := ⟨_, rfl⟩
    obtain ⟨N1, hN1⟩ : ∃ N', IntKind.i64.wrap (qt.msgs : Int) = N' := ⟨_, rfl⟩
    have hr0' : RowAt wr w.heap.size 86 #[.slice oa on oc, .slice pa pn pc, .int .u64 sr, .int .i64 Q1, .slice qa qn qc, .int .i64 N1] := by
      rw [← hQ1, ← hN1]
      exact hr0
    have HQ1 := Lib.hid (And.intro hQ1 hN1)
    obtain ⟨b1, b2, b3, b4, b5, b6⟩ := row_facts hr0'
    obtain ⟨i1, i2, i3, i4, i5, i6⟩ := row_facts hr1
    have HN := Lib.hid hn
    have L0 := Lib.hid hr0'
    have L1 := Lib.hid hr1
    have HBQ := Lib.hid hbq
    have HPQ := Lib.hid hpq
    have HOQ := Lib.hid hokq
    have hleq := hbq.size
    clear hn hr0 hr0' hr1 hbq hpq hokq HBX T1 HAO HB2 HRS T0 HP2
    cases qm with
    | true =>
      have C := Lib.hid (fun W hp => ragain_any oa pa qa on oc pn pc qn qc sr qt low high W hp HOQ.out H1.out H2.out HLE.out)
      rw [hQ1, hN1] at C
      have HAO := Lib.hid (again_ok HOQ.out H1.out H2.out)
      have HLS := Lib.hid (@again_less sr low high qt)
      have HRS := Lib.hid (round_step (src := sr) (low := low) (high := high) qt)
      obtain ⟨r2, hr2⟩ : ∃ r2, againS sr low high qt = r2 := ⟨_, rfl⟩
      rw [hr2] at C HAO HLS HRS
      clear hr2 hQ1 hN1
      go_wp2_with fail
      refine (C.out _ HPQ.out).mono ?_
      rintro e w3 ⟨y, rfl, hy, hb3⟩
      obtain ⟨xa, xn, xc, ya, yn, yc, za, zn, zc, rfl, hpar⟩ := hy
      obtain ⟨Q, hQ⟩ : ∃ Q, (r2.1).seq = Q := ⟨_, rfl⟩
      obtain ⟨N', hN'⟩ : ∃ N', IntKind.i64.wrap ((r2.1).msgs : Int) = N' := ⟨_, rfl⟩
      rw [stA, hQ, hN']
      have S0 := Lib.hid (L0.out.run hb3)
      have S1 := Lib.hid (L1.out.run hb3)
      have HB3 := Lib.hid (below_run HBQ.out hb3)
      have HPAR := Lib.hid hpar
      have HQN := Lib.hid (And.intro hQ hN')
      obtain ⟨e1, e2, e3, e4, e5, e6⟩ := row_facts S0.out
      clear hb3 hpar hQ hN' C b1 b2 b3 b4 b5 b6 i1 i2 i3 i4 i5 i6
      go_wp2_with fail
      have F4 : RowAt ((((((w3.setCell ⟨w.heap.size, 0, none⟩ (.slice xa xn xc)).setCell ⟨w.heap.size, 1, none⟩ (.slice ya yn yc)).setCell ⟨w.heap.size, 2, none⟩ (.int .u64 sr)).setCell ⟨w.heap.size, 3, none⟩ (.int .i64 Q)).setCell ⟨w.heap.size, 4, none⟩ (.slice za zn zc)).setCell ⟨w.heap.size, 5, none⟩ (.int .i64 N')) (w.heap.size) 86 #[.slice xa xn xc, .slice ya yn yc, .int .u64 sr, .int .i64 Q, .slice za zn zc, .int .i64 N'] ∧ Own6 w3 ((((((w3.setCell ⟨w.heap.size, 0, none⟩ (.slice xa xn xc)).setCell ⟨w.heap.size, 1, none⟩ (.slice ya yn yc)).setCell ⟨w.heap.size, 2, none⟩ (.int .u64 sr)).setCell ⟨w.heap.size, 3, none⟩ (.int .i64 Q)).setCell ⟨w.heap.size, 4, none⟩ (.slice za zn zc)).setCell ⟨w.heap.size, 5, none⟩ (.int .i64 N')) ∧ Below w.heap.size w ((((((w3.setCell ⟨w.heap.size, 0, none⟩ (.slice xa xn xc)).setCell ⟨w.heap.size, 1, none⟩ (.slice ya yn yc)).setCell ⟨w.heap.size, 2, none⟩ (.int .u64 sr)).setCell ⟨w.heap.size, 3, none⟩ (.int .i64 Q)).setCell ⟨w.heap.size, 4, none⟩ (.slice za zn zc)).setCell ⟨w.heap.size, 5, none⟩ (.int .i64 N')) ∧ RowAt ((((((w3.setCell ⟨w.heap.size, 0, none⟩ (.slice xa xn xc)).setCell ⟨w.heap.size, 1, none⟩ (.slice ya yn yc)).setCell ⟨w.heap.size, 2, none⟩ (.int .u64 sr)).setCell ⟨w.heap.size, 3, none⟩ (.int .i64 Q)).setCell ⟨w.heap.size, 4, none⟩ (.slice za zn zc)).setCell ⟨w.heap.size, 5, none⟩ (.int .i64 N')) (w.heap.size + 1) 86 #[.slice none 0 0, .slice none 0 0, .int .u64 0, .int .i64 0, .slice none 0 0, .int .i64 0] := by
        have M0 : Mine w3 w.heap.size := ⟨_, S0.out, rfl, _, _, _, rfl⟩
        have h1 := RowAt.six (v0 := .slice xa xn xc) (v1 := .slice ya yn yc) (v2 := .int .u64 sr) (v3 := .int .i64 Q) (v4 := .slice za zn zc) (v5 := .int .i64 N') (S0.out)
        have h2 := own6_set (i := 5) (own6_set (i := 4) (own6_set (i := 3) (own6_set (i := 2) (own6_set (i := 1) (own6_set (i := 0) (own6_refl w3) M0 (.slice xa xn xc)) M0 (.slice ya yn yc)) M0 (.int .u64 sr)) M0 (.int .i64 Q)) M0 (.slice za zn zc)) M0 (.int .i64 N')
        have h4 := ((((((S1.out).far1 (g := w.heap.size) (i := 0) (u := .slice xa xn xc) hne).far1 (g := w.heap.size) (i := 1) (u := .slice ya yn yc) hne).far1 (g := w.heap.size) (i := 2) (u := .int .u64 sr) hne).far1 (g := w.heap.size) (i := 3) (u := .int .i64 Q) hne).far1 (g := w.heap.size) (i := 4) (u := .slice za zn zc) hne).far1 (g := w.heap.size) (i := 5) (u := .int .i64 N') hne
        refine ⟨h1, h2, ?_, h4⟩
        have := HB3.out
        repeat' (first | (with_reducible assumption) | (with_reducible refine below_one ?_ (Nat.le_refl _)))
      generalize (((((w3.setCell ⟨w.heap.size, 0, none⟩ (.slice xa xn xc)).setCell ⟨w.heap.size, 1, none⟩ (.slice ya yn yc)).setCell ⟨w.heap.size, 2, none⟩ (.int .u64 sr)).setCell ⟨w.heap.size, 3, none⟩ (.int .i64 Q)).setCell ⟨w.heap.size, 4, none⟩ (.slice za zn zc)).setCell ⟨w.heap.size, 5, none⟩ (.int .i64 N') = w4 at F4 ⊢
      obtain ⟨t0, O4, hb4, t1⟩ := F4
      have T0 := Lib.hid t0
      have T1 := Lib.hid t1
      have HP4 := Lib.hid (HPAR.out.six O4)
      have HB4 := Lib.hid hb4
      have HBX : Hid (RBox w4 w.heap.size sr r2.1) := by
        have hq := HQN.out
        refine ⟨xa, xn, xc, ya, yn, yc, za, zn, zc, ?_, HP4.out⟩
        rw [hq.1, hq.2]
        exact T0.out
      clear O4 t0 t1 hb4 e1 e2 e3 e4 e5 e6
      go_wp2_with fail
      go_roundg (if r2.2.1 then freeS r2.1 + 1 else 0)
      case measure =>
        have h1 := HN.out
        simp only [if_true] at h1
        rw [h1]
        split
        · rename_i hx
          have := HLS.out hx
          omega
        · omega
      case rel => exact ⟨r2, rfl, rfl, rfl, HBX.out, T1.out, HAO.out, HB4.out, by show _ = _; rw [heq.out, ← HRS.out]; rfl⟩
    | false =>
      have heq2 : Hid (roundS sr low high (freeS t + 1) t = (qt, qe)) := heq.out
      clear heq HN
      have HQN1 := Lib.hid (And.intro hQ1 hN1)
      cases qe with
      | true =>
        have HE := Lib.hid (search_done d heq2.out (.inl rfl))
        clear hQ1 hN1
        go_wp2
        have F : RowAt ((((((wr.setCell ⟨w.heap.size + 1, 0, none⟩ (.slice oa on oc)).setCell ⟨w.heap.size + 1, 1, none⟩ (.slice pa pn pc)).setCell ⟨w.heap.size + 1, 2, none⟩ (.int .u64 sr)).setCell ⟨w.heap.size + 1, 3, none⟩ (.int .i64 Q1)).setCell ⟨w.heap.size + 1, 4, none⟩ (.slice qa qn qc)).setCell ⟨w.heap.size + 1, 5, none⟩ (.int .i64 N1)) (w.heap.size + 1) 86 #[.slice oa on oc, .slice pa pn pc, .int .u64 sr, .int .i64 Q1, .slice qa qn qc, .int .i64 N1] ∧ Own6 wr ((((((wr.setCell ⟨w.heap.size + 1, 0, none⟩ (.slice oa on oc)).setCell ⟨w.heap.size + 1, 1, none⟩ (.slice pa pn pc)).setCell ⟨w.heap.size + 1, 2, none⟩ (.int .u64 sr)).setCell ⟨w.heap.size + 1, 3, none⟩ (.int .i64 Q1)).setCell ⟨w.heap.size + 1, 4, none⟩ (.slice qa qn qc)).setCell ⟨w.heap.size + 1, 5, none⟩ (.int .i64 N1)) ∧ Below w.heap.size w ((((((wr.setCell ⟨w.heap.size + 1, 0, none⟩ (.slice oa on oc)).setCell ⟨w.heap.size + 1, 1, none⟩ (.slice pa pn pc)).setCell ⟨w.heap.size + 1, 2, none⟩ (.int .u64 sr)).setCell ⟨w.heap.size + 1, 3, none⟩ (.int .i64 Q1)).setCell ⟨w.heap.size + 1, 4, none⟩ (.slice qa qn qc)).setCell ⟨w.heap.size + 1, 5, none⟩ (.int .i64 N1)) := by
          have M2 : Mine wr (w.heap.size + 1) := ⟨_, L1.out, rfl, _, _, _, rfl⟩
          have h1 := RowAt.six (v0 := .slice oa on oc) (v1 := .slice pa pn pc) (v2 := .int .u64 sr) (v3 := .int .i64 Q1) (v4 := .slice qa qn qc) (v5 := .int .i64 N1) (L1.out)
          have h2 := own6_set (i := 5) (own6_set (i := 4) (own6_set (i := 3) (own6_set (i := 2) (own6_set (i := 1) (own6_set (i := 0) (own6_refl wr) M2 (.slice oa on oc)) M2 (.slice pa pn pc)) M2 (.int .u64 sr)) M2 (.int .i64 Q1)) M2 (.slice qa qn qc)) M2 (.int .i64 N1)
          refine ⟨h1, h2, ?_⟩
          have := HBQ.out
          repeat' (first | (with_reducible assumption) | (with_reducible refine below_one ?_ (by omega)))
        generalize (((((wr.setCell ⟨w.heap.size + 1, 0, none⟩ (.slice oa on oc)).setCell ⟨w.heap.size + 1, 1, none⟩ (.slice pa pn pc)).setCell ⟨w.heap.size + 1, 2, none⟩ (.int .u64 sr)).setCell ⟨w.heap.size + 1, 3, none⟩ (.int .i64 Q1)).setCell ⟨w.heap.size + 1, 4, none⟩ (.slice qa qn qc)).setCell ⟨w.heap.size + 1, 5, none⟩ (.int .i64 N1) = wf at F ⊢
        obtain ⟨hr3, O, hbf⟩ := F
        rw [HE.out]
        refine bodyPost_ret (v := .agg #[.slice oa on oc, .slice pa pn pc, .int .u64 sr, .int .i64 Q1, .slice qa qn qc, .int .i64 N1]) ?_ rfl ⟨_, rfl, ⟨oa, on, oc, pa, pn, pc, qa, qn, qc, ?_, HPQ.out.six O⟩, hbf⟩
        · simp [results, Tryz.results41, go_sem, cell_fact hr3]
        · rw [stA, HQN1.out.1, HQN1.out.2]
      | false =>
        by_cases hlh : low = high
        · have HE := Lib.hid (search_done d heq2.out (.inr hlh))
          have hlb : (low == high) = true := by simpa using hlh
          clear hlh hQ1 hN1
          go_wp2
          have F : RowAt ((((((wr.setCell ⟨w.heap.size + 1, 0, none⟩ (.slice oa on oc)).setCell ⟨w.heap.size + 1, 1, none⟩ (.slice pa pn pc)).setCell ⟨w.heap.size + 1, 2, none⟩ (.int .u64 sr)).setCell ⟨w.heap.size + 1, 3, none⟩ (.int .i64 Q1)).setCell ⟨w.heap.size + 1, 4, none⟩ (.slice qa qn qc)).setCell ⟨w.heap.size + 1, 5, none⟩ (.int .i64 N1)) (w.heap.size + 1) 86 #[.slice oa on oc, .slice pa pn pc, .int .u64 sr, .int .i64 Q1, .slice qa qn qc, .int .i64 N1] ∧ Own6 wr ((((((wr.setCell ⟨w.heap.size + 1, 0, none⟩ (.slice oa on oc)).setCell ⟨w.heap.size + 1, 1, none⟩ (.slice pa pn pc)).setCell ⟨w.heap.size + 1, 2, none⟩ (.int .u64 sr)).setCell ⟨w.heap.size + 1, 3, none⟩ (.int .i64 Q1)).setCell ⟨w.heap.size + 1, 4, none⟩ (.slice qa qn qc)).setCell ⟨w.heap.size + 1, 5, none⟩ (.int .i64 N1)) ∧ Below w.heap.size w ((((((wr.setCell ⟨w.heap.size + 1, 0, none⟩ (.slice oa on oc)).setCell ⟨w.heap.size + 1, 1, none⟩ (.slice pa pn pc)).setCell ⟨w.heap.size + 1, 2, none⟩ (.int .u64 sr)).setCell ⟨w.heap.size + 1, 3, none⟩ (.int .i64 Q1)).setCell ⟨w.heap.size + 1, 4, none⟩ (.slice qa qn qc)).setCell ⟨w.heap.size + 1, 5, none⟩ (.int .i64 N1)) := by
            have M2 : Mine wr (w.heap.size + 1) := ⟨_, L1.out, rfl, _, _, _, rfl⟩
            have h1 := RowAt.six (v0 := .slice oa on oc) (v1 := .slice pa pn pc) (v2 := .int .u64 sr) (v3 := .int .i64 Q1) (v4 := .slice qa qn qc) (v5 := .int .i64 N1) (L1.out)
            have h2 := own6_set (i := 5) (own6_set (i := 4) (own6_set (i := 3) (own6_set (i := 2) (own6_set (i := 1) (own6_set (i := 0) (own6_refl wr) M2 (.slice oa on oc)) M2 (.slice pa pn pc)) M2 (.int .u64 sr)) M2 (.int .i64 Q1)) M2 (.slice qa qn qc)) M2 (.int .i64 N1)
            refine ⟨h1, h2, ?_⟩
            have := HBQ.out
            repeat' (first | (with_reducible assumption) | (with_reducible refine below_one ?_ (by omega)))
          generalize (((((wr.setCell ⟨w.heap.size + 1, 0, none⟩ (.slice oa on oc)).setCell ⟨w.heap.size + 1, 1, none⟩ (.slice pa pn pc)).setCell ⟨w.heap.size + 1, 2, none⟩ (.int .u64 sr)).setCell ⟨w.heap.size + 1, 3, none⟩ (.int .i64 Q1)).setCell ⟨w.heap.size + 1, 4, none⟩ (.slice qa qn qc)).setCell ⟨w.heap.size + 1, 5, none⟩ (.int .i64 N1) = wf at F ⊢
          obtain ⟨hr3, O, hbf⟩ := F
          rw [HE.out]
          refine bodyPost_ret (v := .agg #[.slice oa on oc, .slice pa pn pc, .int .u64 sr, .int .i64 Q1, .slice qa qn qc, .int .i64 N1]) ?_ rfl ⟨_, rfl, ⟨oa, on, oc, pa, pn, pc, qa, qn, qc, ?_, HPQ.out.six O⟩, hbf⟩
          · simp [results, Tryz.results41, go_sem, cell_fact hr3]
          · rw [stA, HQN1.out.1, HQN1.out.2]
        · have hlb : (low == high) = false := by simpa using hlh
          have n1 := isId_nat H1.out
          have n2 := isId_nat H2.out
          have hle := HLE.out
          obtain ⟨m1, m2, m3, m4⟩ := middle_in H1.out H2.out (by omega)
          have hmid : middle low high = low + (high - low) / 2 := rfl
          obtain ⟨d', hd'⟩ : ∃ d', d = d' + 1 := by
            cases d with
            | zero =>
              have := HD.out
              have e : (2 : Int) ^ 0 = 1 := rfl
              omega
            | succ d => exact ⟨d, rfl⟩
          have hp : high - low < 2 ^ d' * 2 := by
            have := HD.out
            rw [hd', Int.pow_succ] at this
            exact this
          have f1 : IntKind.u64.wrap (high - low) = high - low := IntWalk.u64_in _ (by omega)
          have f2 : (high - low).tdiv 2 = (high - low) / 2 := Int.tdiv_eq_ediv_of_nonneg (by omega)
          have f3 : IntKind.u64.wrap ((high - low) / 2) = (high - low) / 2 := IntWalk.u64_in _ (by omega)
          have f4 : IntKind.u64.wrap (low + (high - low) / 2) = middle low high := by rw [hmid]; exact IntWalk.u64_in _ (by omega)
          have f5 : IntKind.u64.wrap (middle low high + 1) = middle low high + 1 := IntWalk.u64_in _ (by omega)
          obtain ⟨M, hM⟩ : ∃ M, middle low high = M := ⟨_, rfl⟩
          have HON := Lib.hid (search_on d' heq2.out hlh)
          have C1 := Lib.hid (fun W hp => HIH.out d' hd' oa pa qa on oc pn pc qn qc low (middle low high) qt W H1.out m1 m3 (by omega) HOQ.out hp)
          have HO1 := Lib.hid (search_ok d' low (middle low high) qt H1.out m1 m3 HOQ.out)
          have HM := Lib.hid (And.intro m2 (And.intro m4 (show high - (middle low high + 1) < 2 ^ d' by omega)))
          rw [hQ1, hN1] at C1
          rw [hM] at f4 f5 HON C1 HO1 HM
          obtain ⟨u, hu⟩ : ∃ u, searchS sr d' low M qt = u := ⟨_, rfl⟩
          rw [hu] at HON C1 HO1
          have HDD := Lib.hid hd'
          clear hlh n1 n2 hle m1 m2 m3 m4 hmid hd' hp hM hu heq2 hQ1 hN1
          go_wp2_with fail
          refine (C1.out _ HPQ.out).mono ?_
          rintro e w3 ⟨y, rfl, hy, hb3⟩
          obtain ⟨xa, xn, xc, ya, yn, yc, za, zn, zc, rfl, hpar⟩ := hy
          obtain ⟨Q, hQ⟩ : ∃ Q, (u).seq = Q := ⟨_, rfl⟩
          obtain ⟨N', hN'⟩ : ∃ N', IntKind.i64.wrap ((u).msgs : Int) = N' := ⟨_, rfl⟩
          rw [stA, hQ, hN']
          have S0 := Lib.hid (L0.out.run hb3)
          have S1 := Lib.hid (L1.out.run hb3)
          have HB3 := Lib.hid (below_run HBQ.out hb3)
          have HPAR := Lib.hid hpar
          have HQN := Lib.hid (And.intro hQ hN')
          obtain ⟨e1, e2, e3, e4, e5, e6⟩ := row_facts S0.out
          clear hb3 hpar hQ hN' C1 b1 b2 b3 b4 b5 b6 i1 i2 i3 i4 i5 i6
          go_upto_region 8 with fail
          have F4 : RowAt ((((((w3.setCell ⟨w.heap.size, 0, none⟩ (.slice xa xn xc)).setCell ⟨w.heap.size, 1, none⟩ (.slice ya yn yc)).setCell ⟨w.heap.size, 2, none⟩ (.int .u64 sr)).setCell ⟨w.heap.size, 3, none⟩ (.int .i64 Q)).setCell ⟨w.heap.size, 4, none⟩ (.slice za zn zc)).setCell ⟨w.heap.size, 5, none⟩ (.int .i64 N')) (w.heap.size) 86 #[.slice xa xn xc, .slice ya yn yc, .int .u64 sr, .int .i64 Q, .slice za zn zc, .int .i64 N'] ∧ Own6 w3 ((((((w3.setCell ⟨w.heap.size, 0, none⟩ (.slice xa xn xc)).setCell ⟨w.heap.size, 1, none⟩ (.slice ya yn yc)).setCell ⟨w.heap.size, 2, none⟩ (.int .u64 sr)).setCell ⟨w.heap.size, 3, none⟩ (.int .i64 Q)).setCell ⟨w.heap.size, 4, none⟩ (.slice za zn zc)).setCell ⟨w.heap.size, 5, none⟩ (.int .i64 N')) ∧ Below w.heap.size w ((((((w3.setCell ⟨w.heap.size, 0, none⟩ (.slice xa xn xc)).setCell ⟨w.heap.size, 1, none⟩ (.slice ya yn yc)).setCell ⟨w.heap.size, 2, none⟩ (.int .u64 sr)).setCell ⟨w.heap.size, 3, none⟩ (.int .i64 Q)).setCell ⟨w.heap.size, 4, none⟩ (.slice za zn zc)).setCell ⟨w.heap.size, 5, none⟩ (.int .i64 N')) ∧ RowAt ((((((w3.setCell ⟨w.heap.size, 0, none⟩ (.slice xa xn xc)).setCell ⟨w.heap.size, 1, none⟩ (.slice ya yn yc)).setCell ⟨w.heap.size, 2, none⟩ (.int .u64 sr)).setCell ⟨w.heap.size, 3, none⟩ (.int .i64 Q)).setCell ⟨w.heap.size, 4, none⟩ (.slice za zn zc)).setCell ⟨w.heap.size, 5, none⟩ (.int .i64 N')) (w.heap.size + 1) 86 #[.slice none 0 0, .slice none 0 0, .int .u64 0, .int .i64 0, .slice none 0 0, .int .i64 0] := by
            have M0 : Mine w3 w.heap.size := ⟨_, S0.out, rfl, _, _, _, rfl⟩
            have h1 := RowAt.six (v0 := .slice xa xn xc) (v1 := .slice ya yn yc) (v2 := .int .u64 sr) (v3 := .int .i64 Q) (v4 := .slice za zn zc) (v5 := .int .i64 N') (S0.out)
            have h2 := own6_set (i := 5) (own6_set (i := 4) (own6_set (i := 3) (own6_set (i := 2) (own6_set (i := 1) (own6_set (i := 0) (own6_refl w3) M0 (.slice xa xn xc)) M0 (.slice ya yn yc)) M0 (.int .u64 sr)) M0 (.int .i64 Q)) M0 (.slice za zn zc)) M0 (.int .i64 N')
            have h4 := ((((((S1.out).far1 (g := w.heap.size) (i := 0) (u := .slice xa xn xc) hne).far1 (g := w.heap.size) (i := 1) (u := .slice ya yn yc) hne).far1 (g := w.heap.size) (i := 2) (u := .int .u64 sr) hne).far1 (g := w.heap.size) (i := 3) (u := .int .i64 Q) hne).far1 (g := w.heap.size) (i := 4) (u := .slice za zn zc) hne).far1 (g := w.heap.size) (i := 5) (u := .int .i64 N') hne
            refine ⟨h1, h2, ?_, h4⟩
            have := HB3.out
            repeat' (first | (with_reducible assumption) | (with_reducible refine below_one ?_ (Nat.le_refl _)))
          generalize (((((w3.setCell ⟨w.heap.size, 0, none⟩ (.slice xa xn xc)).setCell ⟨w.heap.size, 1, none⟩ (.slice ya yn yc)).setCell ⟨w.heap.size, 2, none⟩ (.int .u64 sr)).setCell ⟨w.heap.size, 3, none⟩ (.int .i64 Q)).setCell ⟨w.heap.size, 4, none⟩ (.slice za zn zc)).setCell ⟨w.heap.size, 5, none⟩ (.int .i64 N') = w4 at F4 ⊢
          obtain ⟨t0, O4, hb4, t1⟩ := F4
          have hq := HQN.out
          have C2 := Lib.hid (fun W hp => HIH.out d' HDD.out xa ya za xn xc yn yc zn zc (M + 1) high u W HM.out.1 H2.out HM.out.2.1 HM.out.2.2 HO1.out hp)
          rw [hq.1, hq.2] at C2
          have T0 := Lib.hid t0
          have T1 := Lib.hid t1
          have HP4 := Lib.hid (HPAR.out.six O4)
          have HB4 := Lib.hid hb4
          obtain ⟨b1, b2, b3, b4, b5, b6⟩ := row_facts t0
          clear O4 t0 t1 hb4 e1 e2 e3 e4 e5 e6 hq
          go_wp2_with fail
          refine (C2.out _ HP4.out).mono ?_
          rintro e w5 ⟨y, rfl, hy, hb5⟩
          have hd := HDD.out
          subst hd
          have HE := HON
          rw [← HON.out] at hy
          obtain ⟨ua, un, uc, va, vn, vc, wa, wn, wc, rfl, hpar2⟩ := hy
          obtain ⟨Q2, hQ2⟩ : ∃ Q, (searchS sr (d' + 1) low high t).seq = Q := ⟨_, rfl⟩
          obtain ⟨N2, hN2⟩ : ∃ N', IntKind.i64.wrap ((searchS sr (d' + 1) low high t).msgs : Int) = N' := ⟨_, rfl⟩
          rw [stA, hQ2, hN2]
          have X1 := Lib.hid (T1.out.run hb5)
          have HB5 := Lib.hid (below_run HB4.out hb5)
          have HP5 := Lib.hid hpar2
          have HQN2 := Lib.hid (And.intro hQ2 hN2)
          obtain ⟨e1, e2, e3, e4, e5, e6⟩ := row_facts X1.out
          clear b1 b2 b3 b4 b5 b6 hpar2 hQ2 hN2 C2 hb5
          go_wp2
          have F : RowAt ((((((w5.setCell ⟨w.heap.size + 1, 0, none⟩ (.slice ua un uc)).setCell ⟨w.heap.size + 1, 1, none⟩ (.slice va vn vc)).setCell ⟨w.heap.size + 1, 2, none⟩ (.int .u64 sr)).setCell ⟨w.heap.size + 1, 3, none⟩ (.int .i64 Q2)).setCell ⟨w.heap.size + 1, 4, none⟩ (.slice wa wn wc)).setCell ⟨w.heap.size + 1, 5, none⟩ (.int .i64 N2)) (w.heap.size + 1) 86 #[.slice ua un uc, .slice va vn vc, .int .u64 sr, .int .i64 Q2, .slice wa wn wc, .int .i64 N2] ∧ Own6 w5 ((((((w5.setCell ⟨w.heap.size + 1, 0, none⟩ (.slice ua un uc)).setCell ⟨w.heap.size + 1, 1, none⟩ (.slice va vn vc)).setCell ⟨w.heap.size + 1, 2, none⟩ (.int .u64 sr)).setCell ⟨w.heap.size + 1, 3, none⟩ (.int .i64 Q2)).setCell ⟨w.heap.size + 1, 4, none⟩ (.slice wa wn wc)).setCell ⟨w.heap.size + 1, 5, none⟩ (.int .i64 N2)) ∧ Below w.heap.size w ((((((w5.setCell ⟨w.heap.size + 1, 0, none⟩ (.slice ua un uc)).setCell ⟨w.heap.size + 1, 1, none⟩ (.slice va vn vc)).setCell ⟨w.heap.size + 1, 2, none⟩ (.int .u64 sr)).setCell ⟨w.heap.size + 1, 3, none⟩ (.int .i64 Q2)).setCell ⟨w.heap.size + 1, 4, none⟩ (.slice wa wn wc)).setCell ⟨w.heap.size + 1, 5, none⟩ (.int .i64 N2)) := by
            have M2 : Mine w5 (w.heap.size + 1) := ⟨_, X1.out, rfl, _, _, _, rfl⟩
            have h1 := RowAt.six (v0 := .slice ua un uc) (v1 := .slice va vn vc) (v2 := .int .u64 sr) (v3 := .int .i64 Q2) (v4 := .slice wa wn wc) (v5 := .int .i64 N2) (X1.out)
            have h2 := own6_set (i := 5) (own6_set (i := 4) (own6_set (i := 3) (own6_set (i := 2) (own6_set (i := 1) (own6_set (i := 0) (own6_refl w5) M2 (.slice ua un uc)) M2 (.slice va vn vc)) M2 (.int .u64 sr)) M2 (.int .i64 Q2)) M2 (.slice wa wn wc)) M2 (.int .i64 N2)
            refine ⟨h1, h2, ?_⟩
            have := HB5.out
            repeat' (first | (with_reducible assumption) | (with_reducible refine below_one ?_ (by omega)))
          generalize (((((w5.setCell ⟨w.heap.size + 1, 0, none⟩ (.slice ua un uc)).setCell ⟨w.heap.size + 1, 1, none⟩ (.slice va vn vc)).setCell ⟨w.heap.size + 1, 2, none⟩ (.int .u64 sr)).setCell ⟨w.heap.size + 1, 3, none⟩ (.int .i64 Q2)).setCell ⟨w.heap.size + 1, 4, none⟩ (.slice wa wn wc)).setCell ⟨w.heap.size + 1, 5, none⟩ (.int .i64 N2) = wf at F ⊢
          obtain ⟨hr3, O, hbf⟩ := F
          refine bodyPost_ret (v := .agg #[.slice ua un uc, .slice va vn vc, .int .u64 sr, .int .i64 Q2, .slice wa wn wc, .int .i64 N2]) ?_ rfl ⟨_, rfl, ⟨ua, un, uc, va, vn, vc, wa, wn, wc, ?_, HP5.out.six O⟩, hbf⟩
          · simp [results, Tryz.results41, go_sem, cell_fact hr3]
          · rw [stA, HQN2.out.1, HQN2.out.2]

theorem searched_any (sr : Int) (d : Nat) : SearchedSays sr d := by
  induction d with
  | zero => exact searched_body sr 0 fun d' e => by cases e
  | succ d ih =>
    refine searched_body sr (d + 1) fun d' e => ?_
    cases e
    exact ih
end Go.Proofs.YtiemdccjphdbmaaGreat
