/-
  GetCue of the program.
-/
import Derived.Test.YtjeigphhepngmaaGreatDoorZh
namespace Go.Proofs.YtjeigphhepngmaaGreatDoor
open Go.RowKit

theorem upd_new {k r : Nat} {a w w' : World} (h : Upd k a w) (hu : Upd r w w') (hr : a.heap.size ≤ r) : Upd k a w' :=
  ⟨hu.os.trans h.os, hu.tape.trans h.tape, hu.output.trans h.output, Nat.le_trans h.size hu.size, fun j hj hne => (hu.block j (by have := h.size; omega) (by simp; omega)).trans (h.block j hj hne)⟩
theorem CueAt.upd {w w' : World} {k B : Nat} {v1 v2 : Value} {c : CueD} (h : CueAt w v1 v2 c) (hu : Upd k w w') (h1 : NewB B v1) (h2 : NewB B v2) (hk : k < B) : CueAt w' v1 v2 c :=
  ⟨list_upd h.moves hu (fun b off cap he _ => by have := h1 b off _ _ he; omega), list_upd h.parts hu (fun b off cap he _ => by have := h2 b off _ _ he; omega)⟩
theorem NewB.mono {B B' : Nat} {v : Value} (h : NewB B' v) (hB : B ≤ B') : NewB B v := fun g off n cap he => Nat.le_trans hB (h g off n cap he)
theorem rT_size {s t : ByteArray} {a c : Nat} (h : rT s a = some (t, c)) : t.size ≤ 65535 := by
  unfold rT at h
  cases hx : getT s a with
  | error e => rw [hx] at h; simp [Except.toOption] at h
  | ok y =>
    rw [hx] at h
    simp [Except.toOption] at h
    subst h
    exact getT_size hx
theorem rCue_sizes {s : ByteArray} {a k : Nat} {c : CueD} (h : rCue s a = some (c, k)) : c.num.size ≤ 65535 ∧ c.lab.size ≤ 65535 ∧ c.link.size ≤ 65535 := by
  simp only [rCue, rMap, rCue9, rThen, Option.map_eq_some_iff, Option.bind_eq_some_iff, Prod.mk.injEq] at h
  obtain ⟨x, ⟨⟨t1, c1⟩, h1, y1, ⟨⟨t2, c2⟩, h2, y2, ⟨l3, h3, y3, ⟨l4, h4, y4, ⟨b5, h5, y5, ⟨b6, h6, y6, ⟨n7, h7, y7, ⟨⟨t8, c8⟩, h8, y8, h9, rfl⟩, rfl⟩, rfl⟩, rfl⟩, rfl⟩, rfl⟩, rfl⟩, rfl⟩, rfl, rfl⟩ := h
  exact ⟨rT_size h1, rT_size h2, rT_size h8⟩

/-- What the closure in GetCue says. -/
def G1Post (k : Nat) (s : ByteArray) (r : Option (CueD × Nat)) (w : World) (e : Ending) (w' : World) : Prop :=
  match r with
  | some (c, a) => ∃ v1 v2, e = (if a = s.size then .returned (.tuple #[]) else BadE) ∧ RowAt w' k 64 (cueA c v1 v2) ∧ CueAt w' v1 v2 c ∧ CapOk v1 ∧ NewB w.heap.size v1 ∧ NewB w.heap.size v2 ∧ Upd k w w'
  | none => e = BadE ∧ RowAt w' k 64 #[.string ⟨#[]⟩, .string ⟨#[]⟩, .slice none 0 0, .slice none 0 0, .bool false, .bool false, .int .i64 0, .string ⟨#[]⟩, .int .i64 0] ∧ Upd k w w'

set_option maxHeartbeats 1000000 in
set_option maxRecDepth 100000 in
theorem getcue1_any (d k : Nat) (s : ByteArray) (w : World) (hd : RowAt w d 9 #[.string s]) (hc : RowAt w k 64 #[.string ⟨#[]⟩, .string ⟨#[]⟩, .slice none 0 0, .slice none 0 0, .bool false, .bool false, .int .i64 0, .string ⟨#[]⟩, .int .i64 0]) (hs : s.size ≤ 1000000) :
    Calls Tryz.prog 74 #[.pointer (some ⟨d, 0, none⟩), .pointer (some ⟨k, 0, none⟩)] w fun e w' => G1Post k s (rCue s 0) w e w' := by
  have hks := lt_of_block hc
  obtain ⟨x1, x2, x3, x4, x5, x6⟩ := row_facts hd
  have HS := Lib.hid hs
  have C := Lib.hid (fun (W : World) (h : PRd W w.heap.size s 0) => pcue_any w.heap.size s 0 W h (Nat.zero_le _) hs)
  go_enter Tryz.func74, Tryz.ntmps74
  go_wp2_with fail
  obtain ⟨W0, hW0⟩ : ∃ W, w.alloc (.cells #[.string s, .int .i64 0] 110) = W := ⟨_, rfl⟩
  have hp0 : PRd W0 w.heap.size s 0 := by rw [← hW0]; exact RowAt.new _ _ _
  have hc0 : RowAt W0 k 64 #[.string ⟨#[]⟩, .string ⟨#[]⟩, .slice none 0 0, .slice none 0 0, .bool false, .bool false, .int .i64 0, .string ⟨#[]⟩, .int .i64 0] := by rw [← hW0]; exact RowAt.alloc hc _
  have hb0 : Below w.heap.size w W0 := by rw [← hW0]; (repeat' (first | (with_reducible exact Below.refl _ _) | (with_reducible assumption) | (with_reducible refine below_run ?_ (by assumption)) | (with_reducible refine below_of_upd ?_ (by assumption) ?_) | (with_reducible refine below_drewN ?_ _) | (with_reducible refine Below.drew ?_) | (with_reducible refine below_seven ?_ ?_) | (with_reducible refine below_six ?_ ?_) | (with_reducible refine below_one ?_ ?_) | (with_reducible refine Below.alloc ?_ ?_ _) | (with_reducible refine below_after ?_ ?_ (by assumption)) | (show _ ≤ _; first | omega | (simp; done) | (simp; omega))))
  have hz0 : W0.heap.size = w.heap.size + 1 := by rw [← hW0]; simp
  rw [hW0]
  clear hW0 hc hd x1
  refine (C.out _ hp0).mono ?_
  intro e w1 hp
  cases hq : rCue s 0 with
  | none =>
    rw [hq] at hp
    obtain ⟨rfl, hu⟩ := hp
    simp only [BadE]
    go_wp2
    refine ⟨rfl, ?_⟩
    show G1Post k s (rCue s 0) w _ _
    rw [hq]
    exact ⟨rfl, RowAt.upd hc0 hu (by omega), upd_of_below (below_of_upd hb0 hu (Nat.le_refl _))⟩
  | some y =>
    obtain ⟨c, a⟩ := y
    rw [hq] at hp
    obtain ⟨v1, v2, rfl, hp1, hu1, hca, hcap, hn1, hn2⟩ := hp
    obtain ⟨⟨a1, n1, p1, rfl⟩, ⟨a2, n2, p2, rfl⟩⟩ := hca.shapes
    have hc1 := RowAt.upd hc0 hu1 (by omega)
    have U1 : Upd k w w1 := upd_of_below (below_of_upd hb0 hu1 (Nat.le_refl _))
    obtain ⟨nu, la, ms, ps, bl, mk, fo, li, lo⟩ := c
    obtain ⟨x1, x2, x3, x4, x5, x6⟩ := row_facts hc1
    have H1 := Lib.hid (And.intro hp1 (And.intro hca (And.intro hcap (And.intro hn1 (And.intro hn2 (And.intro hc1 U1))))))
    simp only [cueA]
    clear hp1 hu1 hca hcap hn1 hn2 hc0 hp0 hb0 hc1 U1 C
    go_wp2_with fail
    obtain ⟨Wz, hWz⟩ : ∃ W, (((((((((w1.setCell ⟨k, 0, none⟩ (.string nu)).setCell ⟨k, 1, none⟩ (.string la)).setCell ⟨k, 2, none⟩ (.slice a1 n1 p1)).setCell ⟨k, 3, none⟩ (.slice a2 n2 p2)).setCell ⟨k, 4, none⟩ (.bool bl)).setCell ⟨k, 5, none⟩ (.bool mk)).setCell ⟨k, 6, none⟩ (.int .i64 fo)).setCell ⟨k, 7, none⟩ (.string li)).setCell ⟨k, 8, none⟩ (.int .i64 lo)) = W := ⟨_, rfl⟩
    have hu9 : Upd k w1 Wz := by rw [← hWz]; exact upd_set9
    have hF : RowAt Wz k 64 #[.string nu, .string la, .slice a1 n1 p1, .slice a2 n2 p2, .bool bl, .bool mk, .int .i64 fo, .string li, .int .i64 lo] := by rw [← hWz]; exact RowAt.nine H1.out.2.2.2.2.2.1
    have hR : PRd Wz w.heap.size s a := by rw [← hWz]; exact RowAt.far9 H1.out.1 (by omega)
    have hcz := CueAt.upd H1.out.2.1 hu9 H1.out.2.2.2.1 H1.out.2.2.2.2.1 (by omega)
    have UZ := upd_trans H1.out.2.2.2.2.2.2 hu9
    have H2 := Lib.hid (And.intro hF (And.intro hcz UZ))
    rw [hWz]
    clear hWz hu9 hF hcz UZ x1 x2
    refine (pend_any w.heap.size s a Wz hR).mono ?_
    rintro e w2 ⟨hu2, rfl⟩
    have H3 := Lib.hid (show RowAt w2 k 64 #[.string nu, .string la, .slice a1 n1 p1, .slice a2 n2 p2, .bool bl, .bool mk, .int .i64 fo, .string li, .int .i64 lo] ∧ CueAt w2 (.slice a1 n1 p1) (.slice a2 n2 p2) ⟨nu, la, ms, ps, bl, mk, fo, li, lo⟩ ∧ Upd k w w2 from ⟨RowAt.upd H2.out.1 hu2 (by omega), CueAt.upd H2.out.2.1 hu2 H1.out.2.2.2.1 H1.out.2.2.2.2.1 (by omega), upd_new H2.out.2.2 hu2 (Nat.le_refl _)⟩)
    clear hu2 hR
    by_cases ha : a = s.size
    · rw [if_pos ha]
      go_wp2
      (first | go_end0 | refine bodyPost_ret (results_none rfl _ _ _) rfl ?_)
      show G1Post k s (rCue s 0) w _ _
      rw [hq]
      exact ⟨_, _, (if_pos ha).symm, H3.out.1, H3.out.2.1, H1.out.2.2.1, H1.out.2.2.2.1.mono (by omega), H1.out.2.2.2.2.1.mono (by omega), H3.out.2.2⟩
    · rw [if_neg ha]
      simp only [BadE]
      go_wp2
      refine ⟨rfl, ?_⟩
      show G1Post k s (rCue s 0) w _ _
      rw [hq]
      exact ⟨_, _, (if_neg ha).symm, H3.out.1, H3.out.2.1, H1.out.2.2.1, H1.out.2.2.2.1.mono (by omega), H1.out.2.2.2.2.1.mono (by omega), H3.out.2.2⟩

theorem getcue1_enters : ∀ args W, (callFunc 74 args).run Tryz.prog W = .ok (.enter 74 args) W := enters_of Tryz.func74 (by kernel_rfl) rfl


/-- Beside a panic or an end: what GetCue's variable holds. -/
def G2 (k B : Nat) (c : CueD) (w w1 : World) : Prop := ∃ v1 v2, RowAt w1 k 64 (cueA c v1 v2) ∧ CueAt w1 v1 v2 c ∧ CapOk v1 ∧ NewB B v1 ∧ NewB B v2 ∧ Upd k w w1

set_option maxHeartbeats 1000000 in
set_option maxRecDepth 100000 in
theorem pgetcue_any (s : ByteArray) (w : World) (hs : s.size ≤ 1000000) :
    Calls Tryz.prog 30 #[.string s] w fun e w' => ∃ v1 v2, e = .returned (.tuple #[.agg (cueA (getCueD s).1 v1 v2), .int .i64 (getCueD s).2]) ∧ CueAt w' v1 v2 (getCueD s).1 ∧ Below w.heap.size w w' := by
  have hmf : ∀ (fn : Fn) (first cap : Array Value) (w : World), (Instr.makeFunc fn first cap).run Tryz.prog w = .ok (.func fn first cap) w := fun _ _ _ _ => rfl
  obtain ⟨W0, hW0⟩ : ∃ W, ((w.alloc (.cells #[.string s] 9)).alloc (.cells #[.string ⟨#[]⟩, .string ⟨#[]⟩, .slice none 0 0, .slice none 0 0, .bool false, .bool false, .int .i64 0, .string ⟨#[]⟩, .int .i64 0] 64)).alloc (.cells #[.string ⟨#[]⟩, .string ⟨#[]⟩, .slice none 0 0, .slice none 0 0, .bool false, .bool false, .int .i64 0, .string ⟨#[]⟩, .int .i64 0] 64) = W := ⟨_, rfl⟩
  have hz0 : W0.heap.size = w.heap.size + 3 := by rw [← hW0]; simp
  have d0 : RowAt W0 w.heap.size 9 #[.string s] := by rw [← hW0]; exact RowAt.alloc (RowAt.alloc (RowAt.new _ _ _) _) _
  have r0 : RowAt W0 (w.heap.size + 1) 64 #[.string ⟨#[]⟩, .string ⟨#[]⟩, .slice none 0 0, .slice none 0 0, .bool false, .bool false, .int .i64 0, .string ⟨#[]⟩, .int .i64 0] := by rw [← hW0]; exact RowAt.alloc (RowAt.mk (by simp) rfl) _
  have k0 : RowAt W0 (w.heap.size + 1 + 1) 64 #[.string ⟨#[]⟩, .string ⟨#[]⟩, .slice none 0 0, .slice none 0 0, .bool false, .bool false, .int .i64 0, .string ⟨#[]⟩, .int .i64 0] := by rw [← hW0]; exact RowAt.mk (by simp) rfl
  have B0 : Below w.heap.size w W0 := by rw [← hW0]; (repeat' (first | (with_reducible exact Below.refl _ _) | (with_reducible assumption) | (with_reducible refine below_run ?_ (by assumption)) | (with_reducible refine below_of_upd ?_ (by assumption) ?_) | (with_reducible refine below_drewN ?_ _) | (with_reducible refine Below.drew ?_) | (with_reducible refine below_seven ?_ ?_) | (with_reducible refine below_six ?_ ?_) | (with_reducible refine below_one ?_ ?_) | (with_reducible refine Below.alloc ?_ ?_ _) | (with_reducible refine below_after ?_ ?_ (by assumption)) | (show _ ≤ _; first | omega | (simp; done) | (simp; omega))))
  -- what the closure says in try's world
  have C1 := getcue1_any w.heap.size (w.heap.size + 1 + 1) s (W0.alloc (.cells #[.int .i64 0] 35)) (RowAt.alloc d0 _) (RowAt.alloc k0 _) hs
  have e0 : RowAt (W0.alloc (.cells #[.int .i64 0] 35)) W0.heap.size 35 #[.int .i64 0] := RowAt.new _ _ _
  have b0 : Below W0.heap.size W0 (W0.alloc (.cells #[.int .i64 0] 35)) := by (repeat' (first | (with_reducible exact Below.refl _ _) | (with_reducible assumption) | (with_reducible refine below_run ?_ (by assumption)) | (with_reducible refine below_of_upd ?_ (by assumption) ?_) | (with_reducible refine below_drewN ?_ _) | (with_reducible refine Below.drew ?_) | (with_reducible refine below_seven ?_ ?_) | (with_reducible refine below_six ?_ ?_) | (with_reducible refine below_one ?_ ?_) | (with_reducible refine Below.alloc ?_ ?_ _) | (with_reducible refine below_after ?_ ?_ (by assumption)) | (show _ ≤ _; first | omega | (simp; done) | (simp; omega))))
  cases hq : rCue s 0 with
  | none =>
    have GE := Lib.hid (show getCueD s = (zCue, 3) from by simp [getCueD, hq])
    rw [hq] at C1
    have T := Lib.hid (try_bad 74 #[.pointer (some ⟨w.heap.size, 0, none⟩), .pointer (some ⟨w.heap.size + 1 + 1, 0, none⟩)] W0 (fun w1 => Upd (w.heap.size + 1 + 1) W0 w1) getcue1_enters (C1.mono fun e w' ⟨h1, h2, h3⟩ => ⟨h1, RowAt.upd e0 h3 (by omega), upd_trans (upd_of_below b0) h3⟩))
    have D := Lib.hid (And.intro r0 B0)
    clear hq C1 e0 b0 d0 r0 k0 B0
    go_enter Tryz.func30, Tryz.ntmps30
    go_wp2_with fail
    clear hW0
    refine T.out.mono ?_
    rintro e w2 ⟨rfl, w1, hu1, hu2⟩
    have r2 : RowAt w2 (w.heap.size + 1) 64 #[.string ⟨#[]⟩, .string ⟨#[]⟩, .slice none 0 0, .slice none 0 0, .bool false, .bool false, .int .i64 0, .string ⟨#[]⟩, .int .i64 0] := RowAt.upd (RowAt.upd D.out.1 hu1 (by omega)) hu2 (by omega)
    have B2 := Lib.hid (show Below w.heap.size w w2 from below_of_upd (below_of_upd D.out.2 hu1 (by omega)) hu2 (by omega))
    have R2 := Lib.hid r2
    clear hu1 hu2
    obtain ⟨y1, y2, y3, y4, y5, y6⟩ := row_facts r2
    clear r2
    go_wp2
    have hF := RowAt.nine (v0 := .string ⟨#[]⟩) (v1 := .string ⟨#[]⟩) (v2 := .slice none 0 0) (v3 := .slice none 0 0) (v4 := .bool false) (v5 := .bool false) (v6 := .int .i64 0) (v7 := .string ⟨#[]⟩) (v8 := .int .i64 0) R2.out
    obtain ⟨Wz, hWz⟩ : ∃ W, (((((((((w2.setCell ⟨w.heap.size + 1, 0, none⟩ (.string ⟨#[]⟩)).setCell ⟨w.heap.size + 1, 1, none⟩ (.string ⟨#[]⟩)).setCell ⟨w.heap.size + 1, 2, none⟩ (.slice none 0 0)).setCell ⟨w.heap.size + 1, 3, none⟩ (.slice none 0 0)).setCell ⟨w.heap.size + 1, 4, none⟩ (.bool false)).setCell ⟨w.heap.size + 1, 5, none⟩ (.bool false)).setCell ⟨w.heap.size + 1, 6, none⟩ (.int .i64 0)).setCell ⟨w.heap.size + 1, 7, none⟩ (.string ⟨#[]⟩)).setCell ⟨w.heap.size + 1, 8, none⟩ (.int .i64 0)) = W := ⟨_, rfl⟩
    have hB : Below w.heap.size w Wz := by rw [← hWz]; exact below_of_upd B2.out upd_set9 (by omega)
    rw [hWz] at hF ⊢
    have f0 := cell_h hF 0
    have f1 := cell_h hF 1
    have f2 := cell_h hF 2
    have f3 := cell_h hF 3
    have f4 := cell_h hF 4
    have f5 := cell_h hF 5
    have f6 := cell_h hF 6
    have f7 := cell_h hF 7
    have f8 := cell_h hF 8
    simp only [List.getElem?_toArray] at f0 f1 f2 f3 f4 f5 f6 f7 f8
    refine bodyPost_ret (v := .tuple #[.agg #[.string ⟨#[]⟩, .string ⟨#[]⟩, .slice none 0 0, .slice none 0 0, .bool false, .bool false, .int .i64 0, .string ⟨#[]⟩, .int .i64 0], .int .i64 3]) ?_ rfl ⟨.slice none 0 0, .slice none 0 0, ?_, ?_, hB⟩
    · simp [results, Tryz.results30, go_sem, f0, f1, f2, f3, f4, f5, f6, f7, f8]
    · rw [GE.out]; rfl
    · rw [GE.out]; exact cueAt_zero _
  | some y =>
    obtain ⟨c, a⟩ := y
    have HZ := rCue_sizes hq
    rw [hq] at C1
    by_cases ha : a = s.size
    · have GE := (show getCueD s = (if cueE c ≠ 0 then (zCue, cueE c) else (c, 0)) from by simp [getCueD, hq, ha])
      have T := Lib.hid (try_ok 74 #[.pointer (some ⟨w.heap.size, 0, none⟩), .pointer (some ⟨w.heap.size + 1 + 1, 0, none⟩)] W0 (G2 (w.heap.size + 1 + 1) (W0.heap.size + 1) c W0) getcue1_enters (C1.mono fun e w' ⟨v1, v2, h1, h2, h3, h4, h5, h6, h7⟩ => ⟨by rw [h1, if_pos ha], RowAt.upd e0 h7 (by omega), v1, v2, h2, h3, h4, by simpa using h5, by simpa using h6, upd_trans (upd_of_below b0) h7⟩))
      have D := Lib.hid (And.intro r0 B0)
      clear hq C1 e0 b0 d0 r0 k0 B0 ha
      go_enter Tryz.func30, Tryz.ntmps30
      go_wp2_with fail
      clear hW0
      refine T.out.mono ?_
      rintro e w2 ⟨rfl, w1, ⟨v1, v2, hk1, hca1, hcap, hn1, hn2, hu1⟩, hu2⟩
      obtain ⟨⟨a1, n1, p1, rfl⟩, ⟨a2, n2, p2, rfl⟩⟩ := hca1.shapes
      have hca2 := CueAt.upd hca1 hu2 hn1 hn2 (by omega)
      have hk2 := RowAt.upd hk1 hu2 (by omega)
      have r2 : RowAt w2 (w.heap.size + 1) 64 #[.string ⟨#[]⟩, .string ⟨#[]⟩, .slice none 0 0, .slice none 0 0, .bool false, .bool false, .int .i64 0, .string ⟨#[]⟩, .int .i64 0] := RowAt.upd (RowAt.upd D.out.1 hu1 (by omega)) hu2 (by omega)
      have B2 : Below w.heap.size w w2 := below_of_upd (below_of_upd D.out.2 hu1 (by omega)) hu2 (by omega)
      clear hu1 hu2 hca1 hk1
      obtain ⟨nu, la, ms, ps, bl, mk, fo, li, lo⟩ := c
      have C3 := fun (W : World) (hb : Below w2.heap.size w2 W) => ccheck_any ⟨nu, la, ms, ps, bl, mk, fo, li, lo⟩ (.slice a1 n1 p1) (.slice a2 n2 p2) W (hca2.run hb) hcap (Nat.le_trans HZ.1 (by decide)) (Nat.le_trans HZ.2.1 (by decide)) (Nat.le_trans HZ.2.2 (by decide))
      obtain ⟨E, hE⟩ : ∃ E, cueE ⟨nu, la, ms, ps, bl, mk, fo, li, lo⟩ = E := ⟨_, rfl⟩
      rw [hE] at C3 GE
      have C3 := Lib.hid C3
      have GE := Lib.hid GE
      simp only [cueA] at hk2
      have H2 := Lib.hid (And.intro hca2 (And.intro hk2 (And.intro r2 (And.intro B2 (And.intro hn1 hn2)))))
      obtain ⟨x1, x2, x3, x4, x5, x6⟩ := row_facts hk2
      clear hE hca2 hcap HZ hk2 r2 B2 hn1 hn2
      go_wp2_with fail
      refine (C3.out _ (Below.refl _ _)).mono ?_
      rintro e w3 ⟨rfl, hb3⟩
      have r3 := H2.out.2.2.1.run hb3
      have k3 := H2.out.2.1.run hb3
      have H3 := Lib.hid (And.intro (H2.out.1.run hb3) (And.intro r3 (And.intro (H2.out.2.2.2.1.trans (hb3.mono H2.out.2.2.2.1.size)) H2.out.2.2.2.2)))
      clear x1 x2 x3 x4 x5 x6 hb3
      obtain ⟨x1, x2, x3, x4, x5, x6⟩ := row_facts k3
      obtain ⟨y1, y2, y3, y4, y5, y6⟩ := row_facts r3
      clear r3 k3
      by_cases hE0 : E = 0
      · subst hE0
        go_wp2
        have hF := RowAt.nine (v0 := .string nu) (v1 := .string la) (v2 := .slice a1 n1 p1) (v3 := .slice a2 n2 p2) (v4 := .bool bl) (v5 := .bool mk) (v6 := .int .i64 fo) (v7 := .string li) (v8 := .int .i64 lo) H3.out.2.1
        have hu := upd_set9 (k := w.heap.size + 1) (w := w3) (v0 := .string nu) (v1 := .string la) (v2 := .slice a1 n1 p1) (v3 := .slice a2 n2 p2) (v4 := .bool bl) (v5 := .bool mk) (v6 := .int .i64 fo) (v7 := .string li) (v8 := .int .i64 lo)
        obtain ⟨Wz, hWz⟩ : ∃ W, (((((((((w3.setCell ⟨w.heap.size + 1, 0, none⟩ (.string nu)).setCell ⟨w.heap.size + 1, 1, none⟩ (.string la)).setCell ⟨w.heap.size + 1, 2, none⟩ (.slice a1 n1 p1)).setCell ⟨w.heap.size + 1, 3, none⟩ (.slice a2 n2 p2)).setCell ⟨w.heap.size + 1, 4, none⟩ (.bool bl)).setCell ⟨w.heap.size + 1, 5, none⟩ (.bool mk)).setCell ⟨w.heap.size + 1, 6, none⟩ (.int .i64 fo)).setCell ⟨w.heap.size + 1, 7, none⟩ (.string li)).setCell ⟨w.heap.size + 1, 8, none⟩ (.int .i64 lo)) = W := ⟨_, rfl⟩
        rw [hWz] at hF hu ⊢
        have hB : Below w.heap.size w Wz := below_of_upd H3.out.2.2.1 hu (by omega)
        have hca := CueAt.upd H3.out.1 hu H3.out.2.2.2.1 H3.out.2.2.2.2 (by omega)
        have f0 := cell_h hF 0
        have f1 := cell_h hF 1
        have f2 := cell_h hF 2
        have f3 := cell_h hF 3
        have f4 := cell_h hF 4
        have f5 := cell_h hF 5
        have f6 := cell_h hF 6
        have f7 := cell_h hF 7
        have f8 := cell_h hF 8
        simp only [List.getElem?_toArray] at f0 f1 f2 f3 f4 f5 f6 f7 f8
        refine bodyPost_ret (v := .tuple #[.agg #[.string nu, .string la, .slice a1 n1 p1, .slice a2 n2 p2, .bool bl, .bool mk, .int .i64 fo, .string li, .int .i64 lo], .int .i64 0]) ?_ rfl ⟨.slice a1 n1 p1, .slice a2 n2 p2, ?_, ?_, hB⟩
        · simp [results, Tryz.results30, go_sem, f0, f1, f2, f3, f4, f5, f6, f7, f8]
        · rw [GE.out]; rfl
        · rw [GE.out, if_neg (by simp)]
          exact hca
      · have hE1 : (E != 0) = true := by simpa using hE0
        go_wp2
        have hF := RowAt.nine (v0 := .string ⟨#[]⟩) (v1 := .string ⟨#[]⟩) (v2 := .slice none 0 0) (v3 := .slice none 0 0) (v4 := .bool false) (v5 := .bool false) (v6 := .int .i64 0) (v7 := .string ⟨#[]⟩) (v8 := .int .i64 0) H3.out.2.1
        obtain ⟨Wz, hWz⟩ : ∃ W, (((((((((w3.setCell ⟨w.heap.size + 1, 0, none⟩ (.string ⟨#[]⟩)).setCell ⟨w.heap.size + 1, 1, none⟩ (.string ⟨#[]⟩)).setCell ⟨w.heap.size + 1, 2, none⟩ (.slice none 0 0)).setCell ⟨w.heap.size + 1, 3, none⟩ (.slice none 0 0)).setCell ⟨w.heap.size + 1, 4, none⟩ (.bool false)).setCell ⟨w.heap.size + 1, 5, none⟩ (.bool false)).setCell ⟨w.heap.size + 1, 6, none⟩ (.int .i64 0)).setCell ⟨w.heap.size + 1, 7, none⟩ (.string ⟨#[]⟩)).setCell ⟨w.heap.size + 1, 8, none⟩ (.int .i64 0)) = W := ⟨_, rfl⟩
        have hB : Below w.heap.size w Wz := by rw [← hWz]; exact below_of_upd H3.out.2.2.1 upd_set9 (by omega)
        rw [hWz] at hF ⊢
        have f0 := cell_h hF 0
        have f1 := cell_h hF 1
        have f2 := cell_h hF 2
        have f3 := cell_h hF 3
        have f4 := cell_h hF 4
        have f5 := cell_h hF 5
        have f6 := cell_h hF 6
        have f7 := cell_h hF 7
        have f8 := cell_h hF 8
        simp only [List.getElem?_toArray] at f0 f1 f2 f3 f4 f5 f6 f7 f8
        refine bodyPost_ret (v := .tuple #[.agg #[.string ⟨#[]⟩, .string ⟨#[]⟩, .slice none 0 0, .slice none 0 0, .bool false, .bool false, .int .i64 0, .string ⟨#[]⟩, .int .i64 0], .int .i64 E]) ?_ rfl ⟨.slice none 0 0, .slice none 0 0, ?_, ?_, hB⟩
        · simp [results, Tryz.results30, go_sem, f0, f1, f2, f3, f4, f5, f6, f7, f8]
        · rw [GE.out, if_pos hE0]; rfl
        · rw [GE.out, if_pos hE0]; exact cueAt_zero _
    · have GE := Lib.hid (show getCueD s = (zCue, 3) from by simp [getCueD, hq, ha])
      have T := Lib.hid (try_bad 74 #[.pointer (some ⟨w.heap.size, 0, none⟩), .pointer (some ⟨w.heap.size + 1 + 1, 0, none⟩)] W0 (fun w1 => Upd (w.heap.size + 1 + 1) W0 w1) getcue1_enters (C1.mono fun e w' ⟨v1, v2, h1, h2, h3, h4, h5, h6, h7⟩ => ⟨by rw [h1, if_neg ha], RowAt.upd e0 h7 (by omega), upd_trans (upd_of_below b0) h7⟩))
      have D := Lib.hid (And.intro r0 B0)
      clear hq C1 e0 b0 d0 r0 k0 B0 ha HZ
      go_enter Tryz.func30, Tryz.ntmps30
      go_wp2_with fail
      clear hW0
      refine T.out.mono ?_
      rintro e w2 ⟨rfl, w1, hu1, hu2⟩
      have r2 : RowAt w2 (w.heap.size + 1) 64 #[.string ⟨#[]⟩, .string ⟨#[]⟩, .slice none 0 0, .slice none 0 0, .bool false, .bool false, .int .i64 0, .string ⟨#[]⟩, .int .i64 0] := RowAt.upd (RowAt.upd D.out.1 hu1 (by omega)) hu2 (by omega)
      have B2 := Lib.hid (show Below w.heap.size w w2 from below_of_upd (below_of_upd D.out.2 hu1 (by omega)) hu2 (by omega))
      have R2 := Lib.hid r2
      clear hu1 hu2
      obtain ⟨y1, y2, y3, y4, y5, y6⟩ := row_facts r2
      clear r2
      go_wp2
      have hF := RowAt.nine (v0 := .string ⟨#[]⟩) (v1 := .string ⟨#[]⟩) (v2 := .slice none 0 0) (v3 := .slice none 0 0) (v4 := .bool false) (v5 := .bool false) (v6 := .int .i64 0) (v7 := .string ⟨#[]⟩) (v8 := .int .i64 0) R2.out
      obtain ⟨Wz, hWz⟩ : ∃ W, (((((((((w2.setCell ⟨w.heap.size + 1, 0, none⟩ (.string ⟨#[]⟩)).setCell ⟨w.heap.size + 1, 1, none⟩ (.string ⟨#[]⟩)).setCell ⟨w.heap.size + 1, 2, none⟩ (.slice none 0 0)).setCell ⟨w.heap.size + 1, 3, none⟩ (.slice none 0 0)).setCell ⟨w.heap.size + 1, 4, none⟩ (.bool false)).setCell ⟨w.heap.size + 1, 5, none⟩ (.bool false)).setCell ⟨w.heap.size + 1, 6, none⟩ (.int .i64 0)).setCell ⟨w.heap.size + 1, 7, none⟩ (.string ⟨#[]⟩)).setCell ⟨w.heap.size + 1, 8, none⟩ (.int .i64 0)) = W := ⟨_, rfl⟩
      have hB : Below w.heap.size w Wz := by rw [← hWz]; exact below_of_upd B2.out upd_set9 (by omega)
      rw [hWz] at hF ⊢
      have f0 := cell_h hF 0
      have f1 := cell_h hF 1
      have f2 := cell_h hF 2
      have f3 := cell_h hF 3
      have f4 := cell_h hF 4
      have f5 := cell_h hF 5
      have f6 := cell_h hF 6
      have f7 := cell_h hF 7
      have f8 := cell_h hF 8
      simp only [List.getElem?_toArray] at f0 f1 f2 f3 f4 f5 f6 f7 f8
      refine bodyPost_ret (v := .tuple #[.agg #[.string ⟨#[]⟩, .string ⟨#[]⟩, .slice none 0 0, .slice none 0 0, .bool false, .bool false, .int .i64 0, .string ⟨#[]⟩, .int .i64 0], .int .i64 3]) ?_ rfl ⟨.slice none 0 0, .slice none 0 0, ?_, ?_, hB⟩
      · simp [results, Tryz.results30, go_sem, f0, f1, f2, f3, f4, f5, f6, f7, f8]
      · rw [GE.out]; rfl
      · rw [GE.out]; exact cueAt_zero _

end Go.Proofs.YtjeigphhepngmaaGreatDoor
