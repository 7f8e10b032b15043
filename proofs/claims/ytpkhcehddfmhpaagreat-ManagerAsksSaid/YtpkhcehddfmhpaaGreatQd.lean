/-
  A device is asked: the session's ask.
  Three or four stores into one block.
  A wire that shares no memory.
  Ask.
-/
import Derived.Test.YtpkhcehddfmhpaaGreatMk
import Derived.Test.YtpkhcehddfmhpaaGreatQa
import Derived.Test.YtpkhcehddfmhpaaGreatBus
import Derived.Test.YtpkhcehddfmhpaaGreatQf
namespace Go.Proofs.YtpkhcehddfmhpaaGreat
open Go.RowKit Go.Shelf

/-- A wire stays as it is where a block of another type changes. -/
theorem WireT.upd2 {w w' : World} {dv fv lv : Value} {y : Wre} {s U : Nat} {cs : Array Value} (h : WireT w dv fv lv y) (hr : RowAt w s U cs) (h1 : 91 ≠ U) (h2 : 3 ≠ U) (h3 : 9 ≠ U) (hu : Upd s w w') : WireT w' dv fv lv y :=
  ⟨seq_upd h.devs h.td hr h1 hu, seq_upd h.faults h.tf hr h2 hu, seq_upd h.late h.tl hr h3 hu, typed_upd h.td hr h1 hu, typed_upd h.tf hr h2 hu, typed_upd h.tl hr h3 hu, h.nil, h.room⟩
def rslV (a : Rsl) : Value := .agg #[.int .i64 a.kind, .string a.dat, .int .i64 a.reason, .int .i64 a.tries]
/-- What asking leaves. -/
def AskPost (s : Nat) (p : Mgr × Wre × Rsl) (w : World) (e : Ending) (w' : World) : Prop :=
  ∃ dv fv lv, e = .returned (rslV p.2.2) ∧ RowAt w' s 85 (sesA p.1 dv fv lv) ∧ WireT w' dv fv lv p.2.1 ∧ Upd s w w'
/-- What is so in each round. -/
def AskRel (s : Nat) (x : Mgr) (r : Rqs) (p : Mgr × Wre × Rsl) (w wr : World) (i : Value) : Prop :=
  ∃ (n : Nat) (t : Int) (x' : Mgr) (y' : Wre) (dv fv lv : Value), i = .int .i64 t ∧ 1 ≤ t ∧ t + n = x.tries + 1 ∧ RowAt wr s 85 (sesA x' dv fv lv) ∧ WireT wr dv fv lv y' ∧ wireE y' = 0 ∧ chk (ofM x' r) = 0 ∧ x'.tries = x.tries ∧
    askF r n t x' y' = p ∧ RowAt wr w.heap.size 33 #[.int .u64 r.dst, .int .i64 r.kind, .int .i64 r.par, .string r.dat] ∧ RowAt wr (w.heap.size + 1) 37 #[.int .i64 0, .string ⟨#[]⟩, .int .i64 0, .int .i64 0] ∧ Upd s w wr
theorem refuse_size {m : Msg} (h : chk m = 0) (hk : m.kind = 7) : m.dat.size = 1 := by
  grind [chk, lenOf]
theorem tries_next (x : Mgr) : (nextM x).tries = x.tries := rfl
theorem pick_none {m : Msg} {l : List Msg} (t : Int) (h : l.find? (matchesM m) = none) : pickR m t l = none := by rw [pickR, h]; rfl
theorem pick_some {m a : Msg} {l : List Msg} {k : Nat} (t : Int) (h : (l.take k).find? (matchesM m) = none) (ha : l[k]? = some a) (hm : matchesM m a = true) : pickR m t l = some (resM t a) := by
  have hk : k < l.length := (List.getElem?_eq_some_iff.1 ha).1
  have e : l = l.take k ++ a :: l.drop (k + 1) := by
    rw [← (List.getElem?_eq_some_iff.1 ha).2, ← List.drop_eq_getElem_cons hk, List.take_append_drop]
  rw [pickR, e, List.find?_append, h, List.find?_cons, hm]
  rfl

set_option maxHeartbeats 4000000 in
set_option maxRecDepth 100000 in
theorem mask_any (s : Nat) (x : Mgr) (dst kind par : Int) (dat : ByteArray) (y : Wre) (dv fv lv : Value) (w : World) (h : RowAt w s 85 (sesA x dv fv lv)) (hw : WireT w dv fv lv y) (hy : wireE y = 0)
    (hm : chk (ofM x ⟨dst, kind, par, dat⟩) = 0) (ht1 : 1 ≤ x.tries) (ht2 : x.tries ≤ 16) :
    Calls Tryz.prog 25 #[.pointer (some ⟨s, 0, none⟩), .agg #[.int .u64 dst, .int .i64 kind, .int .i64 par, .string dat]] w (AskPost s (askM x y ⟨dst, kind, par, dat⟩) w) := by
  obtain ⟨p, hp⟩ : ∃ p, askM x y ⟨dst, kind, par, dat⟩ = p := ⟨_, rfl⟩
  rw [hp]
  have hlt := lt_of_block h
  have h1 := (h.alloc (.cells #[.int .u64 dst, .int .i64 kind, .int .i64 par, .string dat] 33)).alloc (.cells #[.int .i64 0, .string ⟨#[]⟩, .int .i64 0, .int .i64 0] 37)
  have hw1 := (hw.run ((Below.refl _ _).alloc (Nat.le_refl _) (.cells #[.int .u64 dst, .int .i64 kind, .int .i64 par, .string dat] 33))).run ((Below.refl _ _).alloc (Nat.le_refl _) (.cells #[.int .i64 0, .string ⟨#[]⟩, .int .i64 0, .int .i64 0] 37))
  have HREL := Lib.hid (show AskRel s x ⟨dst, kind, par, dat⟩ p w _ (.int .i64 1) from
    ⟨x.tries.toNat, 1, x, y, dv, fv, lv, rfl, by omega, by omega, h1, hw1, hy, hm, rfl, hp, (RowAt.new _ _ _).alloc _, RowAt.mk (by simp) rfl, upd_alloc (upd_alloc (upd_refl _ _) _) _⟩)
  clear h h1 hw hw1 hy hm hp
  go_enter Tryz.func25, Tryz.ntmps25
  go_wp2
  go_loopw [5, 6, 8] (fun i _ _ wr => AskRel s x ⟨dst, kind, par, dat⟩ p w wr i) (fun i _ _ _ => (x.tries + 1 - intOf i).toNat)
  case atStart => exact HREL.out
  case round =>
    obtain ⟨n, t, x', y', dv', fv', lv', rfl, ht, htn, hr, hwt, hy', hc', htr, hp', hrq, hrs, hu⟩ := hrel
    clear HREL
    obtain ⟨id', seq', tries'⟩ := x'
    dsimp only at htr
    subst htr
    have HU := Lib.hid hu
    have HR := Lib.hid hr
    have HQ := Lib.hid hrq
    have HS := Lib.hid hrs
    have HW := Lib.hid hwt
    have HP := Lib.hid hp'
    have HC := Lib.hid hc'
    have HY := Lib.hid hy'
    have c0 := cell_fact hr 0
    have c1 := cell_fact hr 1
    have c2 := cell_fact hr 2
    simp only [sesA] at c0 c1 c2
    have d0 := cell_fact hrq 0
    have d1 := cell_fact hrq 1
    have d2 := cell_fact hrq 2
    have d3 := cell_fact hrq 3
    simp only [List.getElem?_toArray] at d0 d1 d2 d3
    obtain ⟨x1, x2, x3, x4, x5, x6⟩ := row_facts hr
    obtain ⟨y1, y2, y3, y4, y5, y6⟩ := row_facts hrq
    obtain ⟨z1, z2, z3, z4, z5, z6⟩ := row_facts hrs
    have hr2 : RowAt wr s 85 #[.int .u64 id', .int .i64 seq', .int .i64 x.tries, dv', fv', lv'] := hr
    clear x1 y1 hu hr hrs hwt hp' hc' hy'
    by_cases hle : t ≤ x.tries
    · obtain ⟨n, rfl⟩ : ∃ k, n = k + 1 := ⟨n - 1, by omega⟩
      go_wp2
      go_cut [6] (fun s6 wx => ∃ k : Nat, s6 = .pointer (some ⟨k, 0, none⟩) ∧ wr.heap.size ≤ k ∧ RowAt wx k 52 #[.int .u64 dst, .int .u64 id', .int .i64 seq', .int .i64 kind, .int .i64 par, .string dat] ∧ Below wr.heap.size wr wx)
      case first =>
        go_region_held3 (fun w' => w'.cell? ⟨s, 0, none⟩ = some (.int .u64 id') ∧ w'.cell? ⟨s, 1, none⟩ = some (.int .i64 seq') ∧ w'.cell? ⟨s, 2, none⟩ = some (.int .i64 x.tries) ∧ w'.cell? ⟨w.heap.size, 0, none⟩ = some (.int .u64 dst) ∧ w'.cell? ⟨w.heap.size, 1, none⟩ = some (.int .i64 kind) ∧ w'.cell? ⟨w.heap.size, 2, none⟩ = some (.int .i64 par) ∧ w'.cell? ⟨w.heap.size, 3, none⟩ = some (.string dat)) (first | go_keep | (refine ⟨?_, ?_, ?_, ?_, ?_, ?_, ?_⟩ <;> exact cell_run hb (by assumption)))
          ((go_at_call 67; refine (mof_any _ _ _ _ _ _ _ _).mono ?_; rintro e w1 ⟨rfl, hb⟩; have hz1 := hb.size; (try simp at hz1); (try (have hn : ¬ s = w1.heap.size := (by omega); have hn' : ¬ w1.heap.size = s := (by omega))); (try (have hn : ¬ w.heap.size = w1.heap.size := (by omega); have hn' : ¬ w1.heap.size = w.heap.size := (by omega))); have hS1 : RowAt w1 s 85 #[.int .u64 id', .int .i64 seq', .int .i64 x.tries, dv', fv', lv'] := (by (repeat' (first | (with_reducible assumption) | (with_reducible refine RowAt.drewN ?_ _) | (with_reducible refine RowAt.drew ?_) | (with_reducible apply RowAt.six) | (with_reducible apply RowAt.seven) | ((with_reducible refine RowAt.mk ?_ ?_); (focus (first | rfl | (simp; done))); rfl) | (with_reducible refine RowAt.alloc ?_ _) | (with_reducible refine RowAt.far ?_ ?_) | (with_reducible refine RowAt.run ?_ (by assumption)) | (with_reducible refine RowAt.below ?_ (by assumption) ?_) | (with_reducible refine RowAt.upd ?_ (by assumption) ?_) | (show _ < _; first | omega | (simp; done) | (simp; omega)) | (show ¬ _ = _; first | omega | (simp; done) | (simp; omega)) | exact rfl))); obtain ⟨hS1a, hS1b, hS1c, hS1d, hS1e, hS1f⟩ := row_facts hS1; have hS2 : RowAt w1 w.heap.size 33 #[.int .u64 dst, .int .i64 kind, .int .i64 par, .string dat] := (by (repeat' (first | (with_reducible assumption) | (with_reducible refine RowAt.drewN ?_ _) | (with_reducible refine RowAt.drew ?_) | (with_reducible apply RowAt.six) | (with_reducible apply RowAt.seven) | ((with_reducible refine RowAt.mk ?_ ?_); (focus (first | rfl | (simp; done))); rfl) | (with_reducible refine RowAt.alloc ?_ _) | (with_reducible refine RowAt.far ?_ ?_) | (with_reducible refine RowAt.run ?_ (by assumption)) | (with_reducible refine RowAt.below ?_ (by assumption) ?_) | (with_reducible refine RowAt.upd ?_ (by assumption) ?_) | (show _ < _; first | omega | (simp; done) | (simp; omega)) | (show ¬ _ = _; first | omega | (simp; done) | (simp; omega)) | exact rfl))); obtain ⟨hS2a, hS2b, hS2c, hS2d, hS2e, hS2f⟩ := row_facts hS2; (try (refine have_of (p := RowAt w1 wr.heap.size 52 #[.int .u64 0, .int .u64 0, .int .i64 0, .int .i64 0, .int .i64 0, .string ⟨#[]⟩]) ?_ ?_; (focus ((repeat' (first | (with_reducible assumption) | (with_reducible refine RowAt.drewN ?_ _) | (with_reducible refine RowAt.drew ?_) | (with_reducible apply RowAt.seven) | (with_reducible apply RowAt.six) | (with_reducible refine RowAt.far7 ?_ ?_) | (with_reducible refine RowAt.far6 ?_ ?_) | (with_reducible refine RowAt.far1 ?_ ?_) | ((with_reducible refine RowAt.mk ?_ ?_); (focus (first | (with_reducible rfl) | (simp; done))); rfl) | (with_reducible refine RowAt.alloc ?_ _) | (with_reducible refine RowAt.run ?_ (by assumption)) | (with_reducible refine RowAt.below ?_ (by assumption) ?_) | (with_reducible refine RowAt.upd ?_ (by assumption) ?_) | (with_reducible show _ < _; first | omega | (simp; done) | (simp; omega)) | (with_reducible show ¬ _ = _; first | omega | (simp; done) | (simp; omega)) | (with_reducible exact rfl))); done)); intro hx; obtain ⟨x1, x2, x3, x4, x5, x6⟩ := row_facts hx))))
        all_goals (go_wp2_with fail; go_meet)
        all_goals (refine ⟨_, rfl, ?_, ?_, ?_⟩; (focus omega); (focus ((repeat' (first | (with_reducible assumption) | (with_reducible refine RowAt.drewN ?_ _) | (with_reducible refine RowAt.drew ?_) | (with_reducible apply RowAt.seven) | (with_reducible apply RowAt.six) | (with_reducible refine RowAt.far7 ?_ ?_) | (with_reducible refine RowAt.far6 ?_ ?_) | (with_reducible refine RowAt.far1 ?_ ?_) | ((with_reducible refine RowAt.mk ?_ ?_); (focus (first | (with_reducible rfl) | (simp; done))); rfl) | (with_reducible refine RowAt.alloc ?_ _) | (with_reducible refine RowAt.run ?_ (by assumption)) | (with_reducible refine RowAt.below ?_ (by assumption) ?_) | (with_reducible refine RowAt.upd ?_ (by assumption) ?_) | (with_reducible show _ < _; first | omega | (simp; done) | (simp; omega)) | (with_reducible show ¬ _ = _; first | omega | (simp; done) | (simp; omega)) | (with_reducible exact rfl))); done)); ((repeat' (first | (with_reducible exact Below.refl _ _) | (with_reducible assumption) | (with_reducible refine below_run ?_ (by assumption)) | (with_reducible refine below_of_upd ?_ (by assumption) ?_) | (with_reducible refine below_drewN ?_ _) | (with_reducible refine Below.drew ?_) | (with_reducible refine below_seven ?_ ?_) | (with_reducible refine below_six ?_ ?_) | (with_reducible refine below_one ?_ ?_) | (with_reducible refine Below.alloc ?_ ?_ _) | (with_reducible refine below_after ?_ ?_ (by assumption)) | (show _ ≤ _; first | omega | (simp; done) | (simp; omega)))); done))
      case rest =>
        obtain ⟨k, rfl, hkz, hrm, hbx⟩ := hcut
        have hW := HW.out.run hbx
        have hR := HR.out.run hbx
        have hQ := HQ.out.run hbx
        have hu0 := upd_below HU.out hbx
        have C := Lib.hid (msend_any s ⟨id', seq', x.tries⟩ dst kind par dat y' dv' fv' lv' wc hR hW (wire_parts HY.out).2.2.1 (by have := (wire_parts HY.out).2.1; omega) (wire_parts HY.out).1 HC.out (small_of_chk HC.out).2.2.2.2.1 (small_of_chk HC.out).2.2.2.2.2.1 (wire_parts HY.out).2.2.2.1 (long_all (wire_parts HY.out).2.2.2.2))
        obtain ⟨m1, m2, m3, m4, m5, m6⟩ := row_facts hrm
        obtain ⟨q1, q2, q3, q4, q5, q6⟩ := row_facts hQ
        have hlk := m3
        have HRM := Lib.hid hrm
        have HQ1 := Lib.hid hQ
        have HU0 := Lib.hid hu0
        have HS1 := Lib.hid (HS.out.run hbx)
        clear c0 c1 c2 d0 d1 d2 d3 x2 x3 x4 x5 x6 y2 y3 y4 y5 y6 z1 z2 z3 z4 z5 z6 hrq hr2 hW hR hQ hu0 hrm hbx
        go_wp2_with fail
        refine C.out.mono ?_
        rintro e w7 ⟨v, dv2, fv2, lv2, rfl, hms, hr7, hw7, hu7⟩
        have hsl : s < wr.heap.size := lt_of_block HR.out
        have hrm7 := HRM.out.upd hu7 (by omega)
        have hq7 := HQ1.out.upd hu7 (by omega)
        have hs7 := HS1.out.upd hu7 (by omega)
        have hu77 := upd_upd HU0.out hu7
        obtain ⟨L, hL⟩ : ∃ L, hearW ⟨id', seq', x.tries⟩ ⟨dst, kind, par, dat⟩ y' = L := ⟨_, rfl⟩
        rw [hL] at hms
        have hask1 : ∀ a, pickR (ofM ⟨id', seq', x.tries⟩ ⟨dst, kind, par, dat⟩) t L = some a → (nextM ⟨id', seq', x.tries⟩, sendW ⟨id', seq', x.tries⟩ ⟨dst, kind, par, dat⟩ y', a) = p := by
          intro a e
          rw [← HP.out, askF, hL, e]
        have hask2 : pickR (ofM ⟨id', seq', x.tries⟩ ⟨dst, kind, par, dat⟩) t L = none → askF ⟨dst, kind, par, dat⟩ n (t + 1) (nextM ⟨id', seq', x.tries⟩) (sendW ⟨id', seq', x.tries⟩ ⟨dst, kind, par, dat⟩ y') = p := by
          intro e
          rw [← HP.out, askF, hL, e]
        have HA1 := Lib.hid hask1
        have HA2 := Lib.hid hask2
        have HR7 := Lib.hid hr7
        have HW7 := Lib.hid hw7
        have HM7 := Lib.hid hrm7
        have HQ7 := Lib.hid hq7
        have HS7 := Lib.hid hs7
        have HU7 := Lib.hid hu77
        have HMS := Lib.hid hms
        obtain ⟨y', hy2⟩ : ∃ y2, sendW ⟨id', seq', x.tries⟩ ⟨dst, kind, par, dat⟩ y' = y2 := ⟨_, rfl⟩
        have HY2 := Lib.hid (hy2 ▸ send_right HY.out HC.out)
        rw [hy2] at HA1 HA2 HW7
        obtain ⟨va, vc, rfl⟩ := seq_shape hms
        have hLl : L.length ≤ 140737488351232 := by
          rcases hms with ⟨h0, _⟩ | ⟨_, h1, _⟩ <;> omega
        have HLL := Lib.hid hLl
        clear hms hr7 hw7 hrm7 hq7 hs7 hu77 hu7 hask1 hask2 hL HU0 HS1 HQ1 HRM C HU HR HQ HS HW HP m1 m2 m3 m4 m5 m6 q1 q2 q3 q4 q5 q6 hlk hLl hy2
        go_wp2
        go_loopw [28, 8] (fun i _ wx => ∃ j : Nat, j ≤ L.length ∧ i = .int .i64 j ∧ (L.take j).find? (matchesM (ofM ⟨id', seq', x.tries⟩ ⟨dst, kind, par, dat⟩)) = none ∧ Below w7.heap.size w7 wx) (fun i _ _ => L.length - (intOf i).toNat)
        case atStart => exact ⟨0, Nat.zero_le _, rfl, rfl, Below.refl _ _⟩
        case round =>
          obtain ⟨j, hj, rfl, hfind, hbx⟩ := hrel
          by_cases hlt2 : j < L.length
          · have hlt3 : (j : Int) < (L.length : Int) := by omega
            have hw1 : ∃ b off cap, Value.slice va L.length vc = .slice (some ⟨b, off, none⟩) L.length cap ∧ ∀ i, i < L.length * 6 → wr.cell? ⟨b, off + i, none⟩ = msgsC L i := by
              rcases HMS.out.below hbx with ⟨h0, _⟩ | ⟨h0, h1, b, off, cap, hv, hbl, hcel⟩
              · omega
              · exact ⟨b, off, cap, hv, hcel⟩
            obtain ⟨b, off, cap, hve, hcel⟩ := hw1
            cases hve
            obtain ⟨a, ha, e0, e1, e2, e3, e4, e5⟩ := msg_cells hcel j hlt2
            have hk7 := HM7.out.run hbx
            obtain ⟨m1, m2, m3, m4, m5, m6⟩ := row_facts hk7
            obtain ⟨q, hq⟩ : ∃ q, matchesM ⟨dst, id', seq', kind, par, dat⟩ ⟨a.dst, a.src, a.seq, a.kind, a.par, a.dat⟩ = q := ⟨_, rfl⟩
            have C := Lib.hid (fun W => matches_any dst id' seq' kind par a.dst a.src a.seq a.kind a.par dat a.dat W)
            rw [hq] at C
            have HQ2 := Lib.hid hq
            have HAJ := Lib.hid ha
            have HF := Lib.hid hfind
            have HBX := Lib.hid hbx
            have HKX := Lib.hid hk7
            clear hcel ha hk7 hq hfind hbx
            go_wp2_with fail
            refine (C.out _).mono ?_
            rintro e w8 ⟨rfl, hb8⟩
            have hb9 : Below w7.heap.size w7 w8 := below_run (HBX.out.alloc HBX.out.size _) hb8
            have HB9 := Lib.hid hb9
            have ha9 : RowAt w8 wr.heap.size 52 #[.int .u64 a.dst, .int .u64 a.src, .int .i64 a.seq, .int .i64 a.kind, .int .i64 a.par, .string a.dat] := RowAt.run (RowAt.new wr _ _) hb8
            obtain ⟨p1, p2, p3, p4, p5, p6⟩ := row_facts ha9
            clear e0 e1 e2 e3 e4 e5 m1 m2 m3 m4 m5 m6 hb8 hb9 ha9 C
            cases q with
            | false =>
              have hLl := HLL.out
              go_wp2
              go_roundw
              case rel => exact ⟨j + 1, by omega, by go_num, by rw [take_succ_some HAJ.out, List.find?_append, HF.out]; simp [HQ2.out, ofM], HB9.out⟩
              case measure => simp [intOf]; omega
            | true =>
              have hpick := pick_some (m := ofM ⟨id', seq', x.tries⟩ ⟨dst, kind, par, dat⟩) t HF.out HAJ.out HQ2.out
              have hp := HA1.out _ hpick
              have hz := HB9.out.size
              have hr9 := HR7.out.run HB9.out
              have hw9 := HW7.out.run HB9.out
              have hs9 := HS7.out.run HB9.out
              have hu9 := upd_below HU7.out HB9.out
              obtain ⟨z1, z2, z3, z4, z5, z6⟩ := row_facts hs9
              have HP9 := Lib.hid hp
              have HR9 := Lib.hid hr9
              have HW9 := Lib.hid hw9
              have HS9 := Lib.hid hs9
              have HU9 := Lib.hid hu9
              clear hpick hp hr9 hw9 hs9 hu9
              by_cases hk7 : a.kind = 7
              · have hca : chk ⟨a.dst, a.src, a.seq, a.kind, a.par, a.dat⟩ = 0 := (of_decide_eq_true HQ2.out).2.1
                have hsz : a.dat.size = 1 := refuse_size hca hk7
                have h0 : 0 < a.dat.size := by omega
                have s0 : (0 : Int) < (a.dat.size : Int) := by omega
                have hres : resM t a = ⟨1, ⟨#[]⟩, ((a.dat[0]'h0).toNat : Int), t⟩ := by rw [resM, if_pos hk7, b0_eq a.dat h0]
                have e7 : (a.kind == 7) = true := by simpa using hk7
                have HRS := Lib.hid hres
                have hb8 : ((a.dat[0]'h0).toNat : Int) < 256 := by
                  have := (a.dat[0]'h0).toNat_lt
                  omega
                clear hsz hk7 hres hca
                go_wp2
                have hF : RowAt ((((w8.setCell ⟨w.heap.size + 1, 0, none⟩ (.int .i64 1)).setCell ⟨w.heap.size + 1, 1, none⟩ (.string ⟨#[]⟩)).setCell ⟨w.heap.size + 1, 2, none⟩ (.int .i64 (a.dat[0]'h0).toNat)).setCell ⟨w.heap.size + 1, 3, none⟩ (.int .i64 t)) (w.heap.size + 1) 37 #[.int .i64 1, .string ⟨#[]⟩, .int .i64 (a.dat[0]'h0).toNat, .int .i64 t] := RowAt.set (RowAt.set (RowAt.set (RowAt.set HS9.out rfl) rfl) rfl) rfl
                have hUF : Upd (w.heap.size + 1) w8 ((((w8.setCell ⟨w.heap.size + 1, 0, none⟩ (.int .i64 1)).setCell ⟨w.heap.size + 1, 1, none⟩ (.string ⟨#[]⟩)).setCell ⟨w.heap.size + 1, 2, none⟩ (.int .i64 (a.dat[0]'h0).toNat)).setCell ⟨w.heap.size + 1, 3, none⟩ (.int .i64 t)) := upd_set (upd_set (upd_set (upd_set (upd_refl _ _) _ _) _ _) _ _) _ _
                have f0 := cell_fact hF 0
                have f1 := cell_fact hF 1
                have f2 := cell_fact hF 2
                have f3 := cell_fact hF 3
                simp only [List.getElem?_toArray] at f0 f1 f2 f3
                refine bodyPost_ret (v := .agg #[.int .i64 1, .string ⟨#[]⟩, .int .i64 (a.dat[0]'h0).toNat, .int .i64 t]) ?_ rfl ?_
                · simp [results, Tryz.results25, go_sem, f0, f1, f2, f3]
                · rw [← HP9.out, HRS.out]
                  exact ⟨dv2, fv2, lv2, rfl, HR9.out.upd hUF (by omega), WireT.upd2 HW9.out HS9.out (by decide) (by decide) (by decide) hUF, upd_far (upd_far (upd_far (upd_far HU9.out (by show _ ≤ _; simp) _) (by show _ ≤ _; simp) _) (by show _ ≤ _; simp) _) (by show _ ≤ _; simp) _⟩
              · have hres : resM t a = ⟨0, a.dat, 0, t⟩ := by rw [resM, if_neg hk7]
                have e7 : (a.kind == 7) = false := by simpa using hk7
                have HRS := Lib.hid hres
                clear hk7 hres
                go_wp2
                have hF : RowAt ((((w8.setCell ⟨w.heap.size + 1, 0, none⟩ (.int .i64 0)).setCell ⟨w.heap.size + 1, 1, none⟩ (.string a.dat)).setCell ⟨w.heap.size + 1, 2, none⟩ (.int .i64 0)).setCell ⟨w.heap.size + 1, 3, none⟩ (.int .i64 t)) (w.heap.size + 1) 37 #[.int .i64 0, .string a.dat, .int .i64 0, .int .i64 t] := RowAt.set (RowAt.set (RowAt.set (RowAt.set HS9.out rfl) rfl) rfl) rfl
                have hUF : Upd (w.heap.size + 1) w8 ((((w8.setCell ⟨w.heap.size + 1, 0, none⟩ (.int .i64 0)).setCell ⟨w.heap.size + 1, 1, none⟩ (.string a.dat)).setCell ⟨w.heap.size + 1, 2, none⟩ (.int .i64 0)).setCell ⟨w.heap.size + 1, 3, none⟩ (.int .i64 t)) := upd_set (upd_set (upd_set (upd_set (upd_refl _ _) _ _) _ _) _ _) _ _
                have f0 := cell_fact hF 0
                have f1 := cell_fact hF 1
                have f2 := cell_fact hF 2
                have f3 := cell_fact hF 3
                simp only [List.getElem?_toArray] at f0 f1 f2 f3
                refine bodyPost_ret (v := .agg #[.int .i64 0, .string a.dat, .int .i64 0, .int .i64 t]) ?_ rfl ?_
                · simp [results, Tryz.results25, go_sem, f0, f1, f2, f3]
                · rw [← HP9.out, HRS.out]
                  exact ⟨dv2, fv2, lv2, rfl, HR9.out.upd hUF (by omega), WireT.upd2 HW9.out HS9.out (by decide) (by decide) (by decide) hUF, upd_far (upd_far (upd_far (upd_far HU9.out (by show _ ≤ _; simp) _) (by show _ ≤ _; simp) _) (by show _ ≤ _; simp) _) (by show _ ≤ _; simp) _⟩
          · obtain rfl : j = L.length := by omega
            rw [List.take_length] at hfind
            have hp := HA2.out (pick_none t hfind)
            have hz := hbx.size
            have hr9 := HR7.out.run hbx
            have hw9 := HW7.out.run hbx
            have hq9 := HQ7.out.run hbx
            have hs9 := HS7.out.run hbx
            have hu9 := upd_below HU7.out hbx
            clear hfind
            go_wp2
            go_roundw
            case rel => exact ⟨n, t + 1, _, _, dv2, fv2, lv2, by go_num, by omega, by omega, hr9, hw9, HY2.out, of_next HC.out, rfl, hp, hq9, hs9, hu9⟩
            case measure => simp [intOf]; omega
    · obtain rfl : n = 0 := by omega
      have hp := HP.out
      rw [askF] at hp
      have HP9 := Lib.hid hp
      have hsl : s < wr.heap.size := x3
      have hrl := z3
      clear hp
      go_wp2
      have hF : RowAt ((((wr.setCell ⟨w.heap.size + 1, 0, none⟩ (.int .i64 2)).setCell ⟨w.heap.size + 1, 1, none⟩ (.string ⟨#[]⟩)).setCell ⟨w.heap.size + 1, 2, none⟩ (.int .i64 0)).setCell ⟨w.heap.size + 1, 3, none⟩ (.int .i64 x.tries)) (w.heap.size + 1) 37 #[.int .i64 2, .string ⟨#[]⟩, .int .i64 0, .int .i64 x.tries] := RowAt.set (RowAt.set (RowAt.set (RowAt.set HS.out rfl) rfl) rfl) rfl
      have hUF : Upd (w.heap.size + 1) wr ((((wr.setCell ⟨w.heap.size + 1, 0, none⟩ (.int .i64 2)).setCell ⟨w.heap.size + 1, 1, none⟩ (.string ⟨#[]⟩)).setCell ⟨w.heap.size + 1, 2, none⟩ (.int .i64 0)).setCell ⟨w.heap.size + 1, 3, none⟩ (.int .i64 x.tries)) := upd_set (upd_set (upd_set (upd_set (upd_refl _ _) _ _) _ _) _ _) _ _
      have f0 := cell_fact hF 0
      have f1 := cell_fact hF 1
      have f2 := cell_fact hF 2
      have f3 := cell_fact hF 3
      simp only [List.getElem?_toArray] at f0 f1 f2 f3
      refine bodyPost_ret (v := .agg #[.int .i64 2, .string ⟨#[]⟩, .int .i64 0, .int .i64 x.tries]) ?_ rfl ?_
      · simp [results, Tryz.results25, go_sem, f0, f1, f2, f3]
      · rw [← HP9.out, show silent ⟨id', seq', x.tries⟩ = ⟨2, ⟨#[]⟩, 0, x.tries⟩ from rfl]
        exact ⟨dv', fv', lv', rfl, HR.out.upd hUF (by omega), WireT.upd2 HW.out HS.out (by decide) (by decide) (by decide) hUF, upd_far (upd_far (upd_far (upd_far HU.out (by show _ ≤ _; simp) _) (by show _ ≤ _; simp) _) (by show _ ≤ _; simp) _) (by show _ ≤ _; simp) _⟩
end Go.Proofs.YtpkhcehddfmhpaaGreat

namespace Go.Proofs.YtpkhcehddfmhpaaGreat
open Go.RowKit Go.Shelf

section
variable {w : World} {b T : Nat} {u0 u1 u2 u3 : Value}
theorem row3 {a0 a1 a2 : Value} (h : RowAt w b T #[a0, a1, a2]) : RowAt (((w.setCell ⟨b, 0, none⟩ u0).setCell ⟨b, 1, none⟩ u1).setCell ⟨b, 2, none⟩ u2) b T #[u0, u1, u2] := RowAt.set (RowAt.set (RowAt.set h rfl) rfl) rfl
theorem row4 {a0 a1 a2 a3 : Value} (h : RowAt w b T #[a0, a1, a2, a3]) : RowAt ((((w.setCell ⟨b, 0, none⟩ u0).setCell ⟨b, 1, none⟩ u1).setCell ⟨b, 2, none⟩ u2).setCell ⟨b, 3, none⟩ u3) b T #[u0, u1, u2, u3] := RowAt.set (RowAt.set (RowAt.set (RowAt.set h rfl) rfl) rfl) rfl
theorem RowAt.far3 {k : Nat} {cs : Array Value} (h : RowAt w k T cs) (hne : ¬ k = b) : RowAt (((w.setCell ⟨b, 0, none⟩ u0).setCell ⟨b, 1, none⟩ u1).setCell ⟨b, 2, none⟩ u2) k T cs := ((h.far1 hne).far1 hne).far1 hne
theorem RowAt.far4 {k : Nat} {cs : Array Value} (h : RowAt w k T cs) (hne : ¬ k = b) : RowAt ((((w.setCell ⟨b, 0, none⟩ u0).setCell ⟨b, 1, none⟩ u1).setCell ⟨b, 2, none⟩ u2).setCell ⟨b, 3, none⟩ u3) k T cs := (((h.far1 hne).far1 hne).far1 hne).far1 hne
theorem upd3 : Upd b w (((w.setCell ⟨b, 0, none⟩ u0).setCell ⟨b, 1, none⟩ u1).setCell ⟨b, 2, none⟩ u2) := upd_set (upd_set (upd_set (upd_refl _ _) _ _) _ _) _ _
theorem upd4 : Upd b w ((((w.setCell ⟨b, 0, none⟩ u0).setCell ⟨b, 1, none⟩ u1).setCell ⟨b, 2, none⟩ u2).setCell ⟨b, 3, none⟩ u3) := upd_set (upd_set (upd_set (upd_set (upd_refl _ _) _ _) _ _) _ _) _ _
theorem wire3 {dv fv lv : Value} {y : Wre} {cs : Array Value} (h : WireT w dv fv lv y) (hr : RowAt w b T cs) (h1 : 91 ≠ T) (h2 : 3 ≠ T) (h3 : 9 ≠ T) : WireT (((w.setCell ⟨b, 0, none⟩ u0).setCell ⟨b, 1, none⟩ u1).setCell ⟨b, 2, none⟩ u2) dv fv lv y := WireT.upd2 h hr h1 h2 h3 upd3
theorem wire4 {dv fv lv : Value} {y : Wre} {cs : Array Value} (h : WireT w dv fv lv y) (hr : RowAt w b T cs) (h1 : 91 ≠ T) (h2 : 3 ≠ T) (h3 : 9 ≠ T) : WireT ((((w.setCell ⟨b, 0, none⟩ u0).setCell ⟨b, 1, none⟩ u1).setCell ⟨b, 2, none⟩ u2).setCell ⟨b, 3, none⟩ u3) dv fv lv y := WireT.upd2 h hr h1 h2 h3 upd4
theorem below_three {B : Nat} {a : World} (h : Below B a w) (hg : B ≤ b) : Below B a (((w.setCell ⟨b, 0, none⟩ u0).setCell ⟨b, 1, none⟩ u1).setCell ⟨b, 2, none⟩ u2) := below_one (below_one (below_one h hg) hg) hg
theorem below_four {B : Nat} {a : World} (h : Below B a w) (hg : B ≤ b) : Below B a ((((w.setCell ⟨b, 0, none⟩ u0).setCell ⟨b, 1, none⟩ u1).setCell ⟨b, 2, none⟩ u2).setCell ⟨b, 3, none⟩ u3) := below_one (below_one (below_one (below_one h hg) hg) hg) hg
end
end Go.Proofs.YtpkhcehddfmhpaaGreat

namespace Go.Proofs.YtpkhcehddfmhpaaGreat
open Go.RowKit Go.Shelf

def CopyPost (y : Wre) (w : World) (e : Ending) (w' : World) : Prop :=
  ∃ da fa la, ∃ dn dc fn fc ln lc : Nat, e = .returned (.agg #[.slice da dn dc, .slice fa fn fc, .slice la ln lc]) ∧ WireT w' (.slice da dn dc) (.slice fa fn fc) (.slice la ln lc) y ∧ Below w.heap.size w w'

set_option maxHeartbeats 4000000 in
set_option maxRecDepth 100000 in
theorem mcopied_any (da fa la : Option Addr) (dn dc fn fc ln lc : Nat) (y : Wre) (w : World) (h : WireAt w (.slice da dn dc) (.slice fa fn fc) (.slice la ln lc) y) (hy : wireE y = 0) :
    Calls Tryz.prog 24 #[.agg #[.slice da dn dc, .slice fa fn fc, .slice la ln lc]] w (CopyPost y w) := by
  have hl0 : y.devs.length ≤ 64 ∧ y.faults.length ≤ 4096 ∧ y.late.length ≤ 64 := by
    obtain ⟨h1, h2, -, h4, -⟩ := wire_parts hy
    exact ⟨devs_few h1, h2, h4⟩
  obtain ⟨l1, l2, l3⟩ := hl0
  obtain ⟨W, hW⟩ : ∃ W, (w.alloc (.cells #[.slice da dn dc, .slice fa fn fc, .slice la ln lc] 29)).alloc (.cells #[.slice none 0 0, .slice none 0 0, .slice none 0 0] 29) = W := ⟨_, rfl⟩
  have hbW : Below w.heap.size w W := by rw [← hW]; (repeat' (first | (with_reducible exact Below.refl _ _) | (with_reducible assumption) | (with_reducible refine below_run ?_ (by assumption)) | (with_reducible refine below_of_upd ?_ (by assumption) ?_) | (with_reducible refine below_drewN ?_ _) | (with_reducible refine Below.drew ?_) | (with_reducible refine below_seven ?_ ?_) | (with_reducible refine below_six ?_ ?_) | (with_reducible refine below_one ?_ ?_) | (with_reducible refine Below.alloc ?_ ?_ _) | (with_reducible refine below_after ?_ ?_ (by assumption)) | (show _ ≤ _; first | omega | (simp; done) | (simp; omega))))
  have r0 : RowAt W w.heap.size 29 #[.slice da dn dc, .slice fa fn fc, .slice la ln lc] := by rw [← hW]; exact (RowAt.new _ _ _).alloc _
  have r1 : RowAt W (w.heap.size + 1) 29 #[.slice none 0 0, .slice none 0 0, .slice none 0 0] := by rw [← hW]; exact RowAt.mk (by simp) rfl
  have H := Lib.hid (h.run hbW)
  have R1 := Lib.hid r1
  have HB := Lib.hid hbW
  obtain ⟨x1, x2, x3, x4, x5, x6⟩ := row_facts r0
  obtain ⟨y1, y2, y3, y4, y5, y6⟩ := row_facts r1
  have c0 := cell_fact r0 0
  have c1 := cell_fact r0 1
  have c2 := cell_fact r0 2
  simp only [List.getElem?_toArray] at c0 c1 c2
  have C1 := Lib.hid (fun W hv => clone_devs (.slice da dn dc) y.devs W hv (by omega))
  have C2 := Lib.hid (fun W hv => clone_ints (.slice fa fn fc) y.faults W hv (by omega))
  have C3 := Lib.hid (fun W hv => clone_strs (.slice la ln lc) y.late W hv (by omega))
  clear h hy r0 r1 hbW x1 y1
  go_enter Tryz.func24, Tryz.ntmps24
  go_upto_region 1 with fail
  clear hW
  go_region_held3 (fun w' => w'.cell? ⟨w.heap.size, 0, none⟩ = some (.slice da dn dc) ∧ w'.cell? ⟨w.heap.size, 1, none⟩ = some (.slice fa fn fc) ∧ w'.cell? ⟨w.heap.size, 2, none⟩ = some (.slice la ln lc))
    (first | go_keep | (refine ⟨?_, ?_, ?_⟩ <;> assumption))
    (first
      | (go_at_call 64; refine (C1.out _ (by exact H.out.devs)).mono ?_; rintro e w1 ⟨v1, rfl, ho1, hb1⟩; have hb1' : Below W.heap.size W w1 := (by first | exact hb1 | exact below_undrew hb1); obtain ⟨a1, n1, k1, rfl⟩ := own_slice ho1; have p10 := cell_run hb1' c0; have p11 := cell_run hb1' c1; have p12 := cell_run hb1' c2)
      | (go_at_call 65; refine (C2.out _ (by exact H.out.faults.run hb1')).mono ?_; rintro e w2 ⟨v2, rfl, ho2, hb2⟩; have hb2' : Below W.heap.size W w2 := (by exact below_run hb1' hb2); obtain ⟨a2, n2, k2, rfl⟩ := own_slice ho2; have p20 := cell_run hb2' c0; have p21 := cell_run hb2' c1; have p22 := cell_run hb2' c2)
      | (go_at_call 66; refine (C3.out _ (by exact H.out.late.runM hb2')).mono ?_; rintro e w3 ⟨v3, rfl, ho3, hb3⟩; have hb3' : Below W.heap.size W w3 := (by exact below_run hb2' hb3); obtain ⟨a3, n3, k3, rfl⟩ := own_slice ho3; have p30 := cell_run hb3' c0; have p31 := cell_run hb3' c1; have p32 := cell_run hb3' c2; obtain ⟨q1, q2, q3, q4, q5, q6⟩ := row_facts (R1.out.run hb3')))
  all_goals go_wp2
  have h1' := R1.out.run hb3'
  have hF : RowAt (((w3.setCell ⟨w.heap.size + 1, 0, none⟩ (.slice a1 n1 k1)).setCell ⟨w.heap.size + 1, 1, none⟩ (.slice a2 n2 k2)).setCell ⟨w.heap.size + 1, 2, none⟩ (.slice a3 n3 k3)) (w.heap.size + 1) 29 #[.slice a1 n1 k1, .slice a2 n2 k2, .slice a3 n3 k3] := RowAt.set (RowAt.set (RowAt.set h1' rfl) rfl) rfl
  have hUF : Upd (w.heap.size + 1) w3 (((w3.setCell ⟨w.heap.size + 1, 0, none⟩ (.slice a1 n1 k1)).setCell ⟨w.heap.size + 1, 1, none⟩ (.slice a2 n2 k2)).setCell ⟨w.heap.size + 1, 2, none⟩ (.slice a3 n3 k3)) := upd_set (upd_set (upd_set (upd_refl _ _) _ _) _ _) _ _
  have f0 := cell_fact hF 0
  have f1 := cell_fact hF 1
  have f2 := cell_fact hF 2
  simp only [List.getElem?_toArray] at f0 f1 f2
  have o1 := own_run (own_run ho1 hb2) hb3
  have o2 := own_run ho2 hb3
  have hT : WireT w3 (.slice a1 n1 k1) (.slice a2 n2 k2) (.slice a3 n3 k3) y := ⟨own_devs o1 (by omega), own_ints o2 rfl (by omega), strs_of ho3 rfl (by omega), typed_own o1, typed_own o2, typed_own ho3, nilone_own ho3, room_own o2⟩
  refine bodyPost_ret (v := .agg #[.slice a1 n1 k1, .slice a2 n2 k2, .slice a3 n3 k3]) ?_ rfl ⟨a1, a2, a3, n1, k1, n2, k2, n3, k3, rfl, WireT.upd2 hT h1' (by decide) (by decide) (by decide) hUF, ?_⟩
  · simp [results, Tryz.results24, go_sem, f0, f1, f2]
  · exact below_one (below_one (below_one (below_run HB.out hb3') (by omega)) (by omega)) (by omega)
end Go.Proofs.YtpkhcehddfmhpaaGreat

namespace Go.Proofs.YtpkhcehddfmhpaaGreat
open Go.RowKit Go.Shelf

def mgrV (x : Mgr) : Value := .agg #[.int .u64 x.id, .int .i64 x.seq, .int .i64 x.tries]
/-- What Ask returns. -/
def AskUPost (p : Mgr × Wre × Rsl) (n : Int) (w : World) (e : Ending) (w' : World) : Prop :=
  ∃ da fa la, ∃ dn dc fn fc ln lc : Nat, e = .returned (.tuple #[mgrV p.1, .agg #[.slice da dn dc, .slice fa fn fc, .slice la ln lc], rslV p.2.2, .int .i64 n]) ∧ WireT w' (.slice da dn dc) (.slice fa fn fc) (.slice la ln lc) p.2.1 ∧ Below w.heap.size w w'
theorem wire_zero (w : World) : WireT w (.slice none 0 0) (.slice none 0 0) (.slice none 0 0) zeroWre :=
  ⟨.inl ⟨rfl, _, _, rfl⟩, .inl ⟨rfl, _, _, rfl⟩, .inl ⟨rfl, _, _, rfl⟩, typed_nil _ _ _ _, typed_nil _ _ _ _, typed_nil _ _ _ _, nilone_nil, fun _ _ _ e => by cases e; exact Nat.le_refl _⟩
theorem WireT.at {w : World} {dv fv lv : Value} {y : Wre} (h : WireT w dv fv lv y) : WireAt w dv fv lv y := ⟨h.devs, typed_room h.td h.devs, h.faults, h.late⟩

theorem WireAt.drew {w : World} {dv fv lv : Value} {y : Wre} (h : WireAt w dv fv lv y) : WireAt w.drew dv fv lv y := ⟨h.devs, h.room, h.faults, h.late⟩
theorem WireT.drew {w : World} {dv fv lv : Value} {y : Wre} (h : WireT w dv fv lv y) : WireT w.drew dv fv lv y := ⟨h.devs, h.faults, h.late, h.td, h.tf, h.tl, h.nil, h.room⟩
theorem ask_parts {x : Mgr} {y : Wre} {r : Rqs} (h : askE x y r = 0) : mgrE x = 0 ∧ wireE y = 0 ∧ chk (ofM x r) = 0 ∧ r.dst ≠ 281474976710655 ∧ r.kind ≠ 6 ∧ r.kind ≠ 7 := by
  unfold askE at h
  split at h
  · rename_i hg
    exact absurd h hg
  · rename_i hg
    have hg' := Decidable.not_not.1 hg
    split at h
    · cases h
    · rename_i hd
      unfold givenE at hg'
      split at hg'
      · rename_i h1; exact absurd hg' h1
      · rename_i h1
        split at hg'
        · rename_i h2; exact absurd hg' h2
        · rename_i h2
          split at hg'
          · rename_i h3; exact absurd hg' h3
          · rename_i h3
            split at hg'
            · cases hg'
            · rename_i h4
              exact ⟨Decidable.not_not.1 h1, Decidable.not_not.1 h2, Decidable.not_not.1 h3, hd, fun e => h4 (.inl e), fun e => h4 (.inr e)⟩
theorem mgr_parts {x : Mgr} (h : mgrE x = 0) : isId x.id = true ∧ 0 ≤ x.seq ∧ x.seq ≤ 255 ∧ 1 ≤ x.tries ∧ x.tries ≤ 16 := by
  unfold mgrE at h
  split at h
  · cases h
  · rename_i g
    refine ⟨?_, by omega, by omega, by omega, by omega⟩
    cases hi : isId x.id
    · exact absurd (.inl hi) g
    · rfl

set_option maxHeartbeats 4000000 in
set_option maxRecDepth 100000 in
theorem maskU_any (x : Mgr) (da fa la : Option Addr) (dn dc fn fc ln lc : Nat) (y : Wre) (dst kind par : Int) (dat : ByteArray) (w : World) (h : WireAt w (.slice da dn dc) (.slice fa fn fc) (.slice la ln lc) y) :
    Calls Tryz.prog 7 #[.agg #[.int .u64 x.id, .int .i64 x.seq, .int .i64 x.tries], .agg #[.slice da dn dc, .slice fa fn fc, .slice la ln lc], .agg #[.int .u64 dst, .int .i64 kind, .int .i64 par, .string dat]] w (AskUPost (askU x y ⟨dst, kind, par, dat⟩) (askE x y ⟨dst, kind, par, dat⟩) w) := by
  obtain ⟨id, seq, tries⟩ := x
  show Calls Tryz.prog 7 #[.agg #[.int .u64 id, .int .i64 seq, .int .i64 tries], _, _] w _
  obtain ⟨W, hW⟩ : ∃ W, (((((w.alloc (.cells #[.int .u64 id, .int .i64 seq, .int .i64 tries] 24)).alloc (.cells #[.slice da dn dc, .slice fa fn fc, .slice la ln lc] 29)).alloc (.cells #[.int .u64 dst, .int .i64 kind, .int .i64 par, .string dat] 33)).alloc (.cells #[.int .u64 0, .int .i64 0, .int .i64 0] 24)).alloc (.cells #[.slice none 0 0, .slice none 0 0, .slice none 0 0] 29)).alloc (.cells #[.int .i64 0, .string ⟨#[]⟩, .int .i64 0, .int .i64 0] 37) = W := ⟨_, rfl⟩
  have hbW : Below w.heap.size w W := by rw [← hW]; (repeat' (first | (with_reducible exact Below.refl _ _) | (with_reducible assumption) | (with_reducible refine below_run ?_ (by assumption)) | (with_reducible refine below_of_upd ?_ (by assumption) ?_) | (with_reducible refine below_drewN ?_ _) | (with_reducible refine Below.drew ?_) | (with_reducible refine below_seven ?_ ?_) | (with_reducible refine below_six ?_ ?_) | (with_reducible refine below_one ?_ ?_) | (with_reducible refine Below.alloc ?_ ?_ _) | (with_reducible refine below_after ?_ ?_ (by assumption)) | (show _ ≤ _; first | omega | (simp; done) | (simp; omega))))
  have r0 : RowAt W w.heap.size 24 #[.int .u64 id, .int .i64 seq, .int .i64 tries] := by rw [← hW]; exact (((((RowAt.new _ _ _).alloc _).alloc _).alloc _).alloc _).alloc _
  have r1 : RowAt W (w.heap.size + 1) 29 #[.slice da dn dc, .slice fa fn fc, .slice la ln lc] := by rw [← hW]; exact ((((RowAt.mk (by simp) rfl).alloc _).alloc _).alloc _).alloc _
  have r2 : RowAt W (w.heap.size + 2) 33 #[.int .u64 dst, .int .i64 kind, .int .i64 par, .string dat] := by rw [← hW]; exact (((RowAt.mk (by simp) rfl).alloc _).alloc _).alloc _
  have r3 : RowAt W (w.heap.size + 3) 24 #[.int .u64 0, .int .i64 0, .int .i64 0] := by rw [← hW]; exact ((RowAt.mk (by simp) rfl).alloc _).alloc _
  have r4 : RowAt W (w.heap.size + 4) 29 #[.slice none 0 0, .slice none 0 0, .slice none 0 0] := by rw [← hW]; exact (RowAt.mk (by simp) rfl).alloc _
  have r5 : RowAt W (w.heap.size + 5) 37 #[.int .i64 0, .string ⟨#[]⟩, .int .i64 0, .int .i64 0] := by rw [← hW]; exact RowAt.mk (by simp) rfl
  obtain ⟨E, hE⟩ : ∃ E, askE ⟨id, seq, tries⟩ y ⟨dst, kind, par, dat⟩ = E := ⟨_, rfl⟩
  have C1 := Lib.hid (fun W hv => maskable_any E id seq tries da fa la dn dc fn fc ln lc y dst kind par dat W hv hE)
  have H := Lib.hid (h.run hbW)
  have HB := Lib.hid hbW
  have HE := Lib.hid hE
  have R0 := Lib.hid r0
  have R1 := Lib.hid r1
  have R2 := Lib.hid r2
  have R3 := Lib.hid r3
  have R4 := Lib.hid r4
  have R5 := Lib.hid r5
  obtain ⟨x1, x2, x3, x4, x5, x6⟩ := row_facts r0
  obtain ⟨y1, y2, y3, y4, y5, y6⟩ := row_facts r1
  obtain ⟨z1, z2, z3, z4, z5, z6⟩ := row_facts r2
  rw [hE]
  clear h hE r0 r1 r2 r3 r4 r5 hbW
  go_enter Tryz.func7, Tryz.ntmps7
  go_upto_region 1 with fail
  clear hW
  go_wp2_with fail
  refine (C1.out _ H.out).mono ?_
  rintro e w1 ⟨rfl, hb1⟩
  rw [show w.heap.size + 1 + 1 + 1 + 1 + 1 = w.heap.size + 5 from rfl, show w.heap.size + 1 + 1 + 1 + 1 = w.heap.size + 4 from rfl, show w.heap.size + 1 + 1 + 1 = w.heap.size + 3 from rfl, show w.heap.size + 1 + 1 = w.heap.size + 2 from rfl]
  have HB1 := Lib.hid (below_run HB.out hb1)
  have r3 := R3.out.run hb1
  have r4 := R4.out.run hb1
  have r5 := R5.out.run hb1
  have r0 := R0.out.run hb1
  have r1 := R1.out.run hb1
  have r2 := R2.out.run hb1
  have H1 := Lib.hid (H.out.run hb1)
  clear x1 x2 x3 x4 x5 x6 y1 y2 y3 y4 y5 y6 z1 z2 z3 z4 z5 z6 R0 R1 R2 R3 R4 R5 hb1 HB H C1
  by_cases hz : E = 0
  · subst hz
    obtain ⟨g1, g2, g3, g4, g5, g6⟩ := ask_parts HE.out
    obtain ⟨k1, k2, k3, k4, k5⟩ := mgr_parts g1
    have hU : askU ⟨id, seq, tries⟩ y ⟨dst, kind, par, dat⟩ = askM ⟨id, seq, tries⟩ y ⟨dst, kind, par, dat⟩ := by rw [askU, if_pos HE.out]
    obtain ⟨p, hp⟩ : ∃ p, askM ⟨id, seq, tries⟩ y ⟨dst, kind, par, dat⟩ = p := ⟨_, rfl⟩
    rw [hp] at hU
    have HUU := Lib.hid hU
    have HPP := Lib.hid hp
    have C2 := Lib.hid (fun W hv => mcopied_any da fa la dn dc fn fc ln lc y W hv g2)
    have C3 := Lib.hid (fun s dv fv lv W h hw => mask_any s ⟨id, seq, tries⟩ dst kind par dat y dv fv lv W h hw g2 g3 k4 k5)
    obtain ⟨x1, x2, x3, x4, x5, x6⟩ := row_facts r0
    obtain ⟨y1, y2, y3, y4, y5, y6⟩ := row_facts r1
    have c0 := cell_fact r0 0
    have c1 := cell_fact r0 1
    have c2 := cell_fact r0 2
    have d0 := cell_fact r1 0
    have d1 := cell_fact r1 1
    have d2 := cell_fact r1 2
    simp only [List.getElem?_toArray] at c0 c1 c2 d0 d1 d2
    have R2 := Lib.hid r2
    have R3 := Lib.hid r3
    have R4 := Lib.hid r4
    have R5 := Lib.hid r5
    clear g1 g2 g3 g4 g5 g6 k1 k2 k3 k4 k5 hU hp r0 r1 r2 r3 r4 r5 x1 y1
    go_wp2
    go_region_held3 (fun w' => w'.cell? ⟨w.heap.size, 0, none⟩ = some (.int .u64 id) ∧ w'.cell? ⟨w.heap.size, 1, none⟩ = some (.int .i64 seq) ∧ w'.cell? ⟨w.heap.size, 2, none⟩ = some (.int .i64 tries) ∧ w'.cell? ⟨w.heap.size + 1, 0, none⟩ = some (.slice da dn dc) ∧ w'.cell? ⟨w.heap.size + 1, 1, none⟩ = some (.slice fa fn fc) ∧ w'.cell? ⟨w.heap.size + 1, 2, none⟩ = some (.slice la ln lc))
      (first | go_keep | (refine ⟨?_, ?_, ?_, ?_, ?_, ?_⟩ <;> assumption))
      ((go_at_call 24; refine (C2.out _ (by first | exact H1.out | exact H1.out.drew)).mono ?_; rintro e w2 ⟨a1, a2, a3, n1, k1, n2, k2, n3, k3, rfl, hw2, hb2⟩; have hb2' : Below w1.heap.size w1 w2 := (by first | exact hb2 | exact below_undrew hb2); have p0 := cell_run hb2' c0; have p1 := cell_run hb2' c1; have p2 := cell_run hb2' c2; have p3 := cell_run hb2' d0; have p4 := cell_run hb2' d1; have p5 := cell_run hb2' d2))
    have q2 := R2.out.run hb2'
    obtain ⟨z1, z2, z3, z4, z5, z6⟩ := row_facts q2
    have hs3 : RowAt (w2.alloc (.cells #[.int .u64 id, .int .i64 seq, .int .i64 tries, .slice a1 n1 k1, .slice a2 n2 k2, .slice a3 n3 k3] 85)) w2.heap.size 85 (sesA ⟨id, seq, tries⟩ (.slice a1 n1 k1) (.slice a2 n2 k2) (.slice a3 n3 k3)) := RowAt.new _ _ _
    have hb3 : Below w2.heap.size w2 (w2.alloc (.cells #[.int .u64 id, .int .i64 seq, .int .i64 tries, .slice a1 n1 k1, .slice a2 n2 k2, .slice a3 n3 k3] 85)) := (Below.refl _ _).alloc (Nat.le_refl _) _
    have C4 := Lib.hid (C3.out w2.heap.size _ _ _ _ hs3 (hw2.run hb3))
    have HB3 := Lib.hid (below_run hb2' hb3)
    clear p0 p1 p2 p3 p4 p5 hw2 q2 hs3 hb3 c0 c1 c2 d0 d1 d2 x2 x3 x4 x5 x6 y2 y3 y4 y5 y6 C3 C2
    rw [HPP.out] at C4
    obtain ⟨⟨i', s', t'⟩, y', ⟨ak, ad, ar, at'⟩⟩ := p
    go_wp2_with fail
    refine C4.out.mono ?_
    rintro e w4 ⟨dv, fv, lv, he, hs4, hw4, hu4⟩
    obtain rfl : e = .returned (.agg #[.int .i64 ak, .string ad, .int .i64 ar, .int .i64 at']) := he
    obtain ⟨da', dc', rfl⟩ := seq_shape hw4.devs
    obtain ⟨fa', fc', rfl⟩ := seq_shape hw4.faults
    obtain ⟨la', lc', rfl⟩ := seq_shape hw4.late
    have hz1 := HB1.out.size
    have hz3 := HB3.out.size
    obtain ⟨dn', hdn⟩ : ∃ n, y'.devs.length = n := ⟨_, rfl⟩
    obtain ⟨fn', hfn⟩ : ∃ n, y'.faults.length = n := ⟨_, rfl⟩
    obtain ⟨ln', hln⟩ : ∃ n, y'.late.length = n := ⟨_, rfl⟩
    rw [hdn, hfn, hln] at hs4
    simp only [hdn, hfn, hln] at hw4
    have hq3 : w.heap.size + 3 < w1.heap.size := lt_of_block R3.out
    have hq5 : w.heap.size + 5 < w1.heap.size := lt_of_block R5.out
    have hq2 : w1.heap.size ≤ w2.heap.size := by have := hb2'.size; exact this
    have hz4 := hu4.size
    have t3 := ((R3.out.run HB3.out).upd hu4 (by omega)).alloc (.cells #[.int .i64 ak, .string ad, .int .i64 ar, .int .i64 at'] 37)
    have t4 := ((R4.out.run HB3.out).upd hu4 (by omega)).alloc (.cells #[.int .i64 ak, .string ad, .int .i64 ar, .int .i64 at'] 37)
    have t5 := ((R5.out.run HB3.out).upd hu4 (by omega)).alloc (.cells #[.int .i64 ak, .string ad, .int .i64 ar, .int .i64 at'] 37)
    have hss : RowAt (w4.alloc (.cells #[.int .i64 ak, .string ad, .int .i64 ar, .int .i64 at'] 37)) w2.heap.size 85 #[.int .u64 i', .int .i64 s', .int .i64 t', .slice da' dn' dc', .slice fa' fn' fc', .slice la' ln' lc'] := hs4.alloc _
    have hrr : RowAt (w4.alloc (.cells #[.int .i64 ak, .string ad, .int .i64 ar, .int .i64 at'] 37)) w4.heap.size 37 #[.int .i64 ak, .string ad, .int .i64 ar, .int .i64 at'] := RowAt.new _ _ _
    have hw5 := hw4.run ((Below.refl w4.heap.size w4).alloc (Nat.le_refl _) (.cells #[.int .i64 ak, .string ad, .int .i64 ar, .int .i64 at'] 37))
    have hb5 : Below w.heap.size w (w4.alloc (.cells #[.int .i64 ak, .string ad, .int .i64 ar, .int .i64 at'] 37)) := (below_of_upd (below_run HB1.out HB3.out) hu4 (by omega)).alloc (by omega) _
    obtain ⟨W5, hW5⟩ : ∃ W, w4.alloc (.cells #[.int .i64 ak, .string ad, .int .i64 ar, .int .i64 at'] 37) = W := ⟨_, rfl⟩
    rw [hW5] at t3 t4 t5 hss hrr hw5 hb5
    have T3 := Lib.hid t3
    have T4 := Lib.hid t4
    have T5 := Lib.hid t5
    have W5h := Lib.hid hw5
    have B5 := Lib.hid hb5
    obtain ⟨p1, p2, p3, p4, p5, p6⟩ := row_facts hss
    obtain ⟨q1, q2, q3', q4, q5', q6⟩ := row_facts hrr
    obtain ⟨m1, m2, m3, m4, m5, m6⟩ := row_facts t3
    obtain ⟨n1', n2', n3', n4', n5', n6'⟩ := row_facts t4
    obtain ⟨o1, o2, o3, o4, o5, o6⟩ := row_facts t5
    have c0 := cell_fact hss 0
    have c1 := cell_fact hss 1
    have c2 := cell_fact hss 2
    have c3 := cell_fact hss 3
    have c4 := cell_fact hss 4
    have c5 := cell_fact hss 5
    have d0 := cell_fact hrr 0
    have d1 := cell_fact hrr 1
    have d2 := cell_fact hrr 2
    have d3 := cell_fact hrr 3
    simp only [List.getElem?_toArray] at c0 c1 c2 c3 c4 c5 d0 d1 d2 d3
    have g1 : ¬ w2.heap.size = w.heap.size + 3 := by omega
    have g2 : ¬ w2.heap.size = w.heap.size + 4 := by omega
    have g3 : ¬ w2.heap.size = w.heap.size + 5 := by omega
    have g4 : ¬ w4.heap.size = w.heap.size + 3 := by omega
    have g5 : ¬ w4.heap.size = w.heap.size + 4 := by omega
    have g6 : ¬ w4.heap.size = w.heap.size + 5 := by omega
    have g7 : ¬ w.heap.size + 3 = w2.heap.size := by omega
    have g8 : ¬ w.heap.size + 4 = w2.heap.size := by omega
    have g9 : ¬ w.heap.size + 5 = w2.heap.size := by omega
    have g10 : ¬ w.heap.size + 3 = w4.heap.size := by omega
    have g11 : ¬ w.heap.size + 4 = w4.heap.size := by omega
    have g12 : ¬ w.heap.size + 5 = w4.heap.size := by omega
    clear p1 q1 t3 t4 t5 hss hrr hw5 hb5 hs4 hw4 hu4 z1 z2 z3 z4 z5 z6 hz1 hz3 hq3 hq5 hq2 hz4 hb2 hb2' C4
    go_wp2_with fail
    go_region_held3 (fun w' => w'.cell? ⟨w2.heap.size, 0, none⟩ = some (.int .u64 i') ∧ w'.cell? ⟨w2.heap.size, 1, none⟩ = some (.int .i64 s') ∧ w'.cell? ⟨w2.heap.size, 2, none⟩ = some (.int .i64 t') ∧ w'.cell? ⟨w2.heap.size, 3, none⟩ = some (.slice da' dn' dc') ∧ w'.cell? ⟨w2.heap.size, 4, none⟩ = some (.slice fa' fn' fc') ∧ w'.cell? ⟨w2.heap.size, 5, none⟩ = some (.slice la' ln' lc') ∧ w'.cell? ⟨w4.heap.size, 0, none⟩ = some (.int .i64 ak) ∧ w'.cell? ⟨w4.heap.size, 1, none⟩ = some (.string ad) ∧ w'.cell? ⟨w4.heap.size, 2, none⟩ = some (.int .i64 ar) ∧ w'.cell? ⟨w4.heap.size, 3, none⟩ = some (.int .i64 at')) (go_keep) (fail)
    all_goals go_wp2
    have hF3 : RowAt ((((((((((W5.setCell ⟨w.heap.size + 3, 0, none⟩ (.int .u64 i')).setCell ⟨w.heap.size + 3, 1, none⟩ (.int .i64 s')).setCell ⟨w.heap.size + 3, 2, none⟩ (.int .i64 t')).setCell ⟨w.heap.size + 4, 0, none⟩ (.slice da' dn' dc')).setCell ⟨w.heap.size + 4, 1, none⟩ (.slice fa' fn' fc')).setCell ⟨w.heap.size + 4, 2, none⟩ (.slice la' ln' lc')).setCell ⟨w.heap.size + 5, 0, none⟩ (.int .i64 ak)).setCell ⟨w.heap.size + 5, 1, none⟩ (.string ad)).setCell ⟨w.heap.size + 5, 2, none⟩ (.int .i64 ar)).setCell ⟨w.heap.size + 5, 3, none⟩ (.int .i64 at')) (w.heap.size + 3) 24 #[.int .u64 i', .int .i64 s', .int .i64 t'] := ((row3 T3.out).far3 (by omega)).far4 (by omega)
    have hF4 : RowAt ((((((((((W5.setCell ⟨w.heap.size + 3, 0, none⟩ (.int .u64 i')).setCell ⟨w.heap.size + 3, 1, none⟩ (.int .i64 s')).setCell ⟨w.heap.size + 3, 2, none⟩ (.int .i64 t')).setCell ⟨w.heap.size + 4, 0, none⟩ (.slice da' dn' dc')).setCell ⟨w.heap.size + 4, 1, none⟩ (.slice fa' fn' fc')).setCell ⟨w.heap.size + 4, 2, none⟩ (.slice la' ln' lc')).setCell ⟨w.heap.size + 5, 0, none⟩ (.int .i64 ak)).setCell ⟨w.heap.size + 5, 1, none⟩ (.string ad)).setCell ⟨w.heap.size + 5, 2, none⟩ (.int .i64 ar)).setCell ⟨w.heap.size + 5, 3, none⟩ (.int .i64 at')) (w.heap.size + 4) 29 #[.slice da' dn' dc', .slice fa' fn' fc', .slice la' ln' lc'] := (row3 (T4.out.far3 (by omega))).far4 (by omega)
    have hF5 : RowAt ((((((((((W5.setCell ⟨w.heap.size + 3, 0, none⟩ (.int .u64 i')).setCell ⟨w.heap.size + 3, 1, none⟩ (.int .i64 s')).setCell ⟨w.heap.size + 3, 2, none⟩ (.int .i64 t')).setCell ⟨w.heap.size + 4, 0, none⟩ (.slice da' dn' dc')).setCell ⟨w.heap.size + 4, 1, none⟩ (.slice fa' fn' fc')).setCell ⟨w.heap.size + 4, 2, none⟩ (.slice la' ln' lc')).setCell ⟨w.heap.size + 5, 0, none⟩ (.int .i64 ak)).setCell ⟨w.heap.size + 5, 1, none⟩ (.string ad)).setCell ⟨w.heap.size + 5, 2, none⟩ (.int .i64 ar)).setCell ⟨w.heap.size + 5, 3, none⟩ (.int .i64 at')) (w.heap.size + 5) 37 #[.int .i64 ak, .string ad, .int .i64 ar, .int .i64 at'] := row4 ((T5.out.far3 (by omega)).far3 (by omega))
    have hFW : WireT ((((((((((W5.setCell ⟨w.heap.size + 3, 0, none⟩ (.int .u64 i')).setCell ⟨w.heap.size + 3, 1, none⟩ (.int .i64 s')).setCell ⟨w.heap.size + 3, 2, none⟩ (.int .i64 t')).setCell ⟨w.heap.size + 4, 0, none⟩ (.slice da' dn' dc')).setCell ⟨w.heap.size + 4, 1, none⟩ (.slice fa' fn' fc')).setCell ⟨w.heap.size + 4, 2, none⟩ (.slice la' ln' lc')).setCell ⟨w.heap.size + 5, 0, none⟩ (.int .i64 ak)).setCell ⟨w.heap.size + 5, 1, none⟩ (.string ad)).setCell ⟨w.heap.size + 5, 2, none⟩ (.int .i64 ar)).setCell ⟨w.heap.size + 5, 3, none⟩ (.int .i64 at')) (.slice da' dn' dc') (.slice fa' fn' fc') (.slice la' ln' lc') y' := wire4 (wire3 (wire3 W5h.out T3.out (by decide) (by decide) (by decide)) (T4.out.far3 (by omega)) (by decide) (by decide) (by decide)) ((T5.out.far3 (by omega)).far3 (by omega)) (by decide) (by decide) (by decide)
    have hFB : Below w.heap.size w ((((((((((W5.setCell ⟨w.heap.size + 3, 0, none⟩ (.int .u64 i')).setCell ⟨w.heap.size + 3, 1, none⟩ (.int .i64 s')).setCell ⟨w.heap.size + 3, 2, none⟩ (.int .i64 t')).setCell ⟨w.heap.size + 4, 0, none⟩ (.slice da' dn' dc')).setCell ⟨w.heap.size + 4, 1, none⟩ (.slice fa' fn' fc')).setCell ⟨w.heap.size + 4, 2, none⟩ (.slice la' ln' lc')).setCell ⟨w.heap.size + 5, 0, none⟩ (.int .i64 ak)).setCell ⟨w.heap.size + 5, 1, none⟩ (.string ad)).setCell ⟨w.heap.size + 5, 2, none⟩ (.int .i64 ar)).setCell ⟨w.heap.size + 5, 3, none⟩ (.int .i64 at')) := below_four (below_three (below_three B5.out (by omega)) (by omega)) (by omega)
    have f30 := cell_fact hF3 0
    have f31 := cell_fact hF3 1
    have f32 := cell_fact hF3 2
    have f40 := cell_fact hF4 0
    have f41 := cell_fact hF4 1
    have f42 := cell_fact hF4 2
    have f50 := cell_fact hF5 0
    have f51 := cell_fact hF5 1
    have f52 := cell_fact hF5 2
    have f53 := cell_fact hF5 3
    simp only [List.getElem?_toArray] at f30 f31 f32 f40 f41 f42 f50 f51 f52 f53
    rw [HUU.out]
    refine bodyPost_ret (v := .tuple #[.agg #[.int .u64 i', .int .i64 s', .int .i64 t'], .agg #[.slice da' dn' dc', .slice fa' fn' fc', .slice la' ln' lc'], .agg #[.int .i64 ak, .string ad, .int .i64 ar, .int .i64 at'], .int .i64 0]) ?_ rfl ⟨da', fa', la', dn', dc', fn', fc', ln', lc', rfl, ?_, ?_⟩
    · simp [results, Tryz.results7, go_sem, f30, f31, f32, f40, f41, f42, f50, f51, f52, f53]
    · exact hFW.drew
    · exact Below.drew hFB
  · have e9 : (E != 0) = true := by simpa using hz
    have hU : askU ⟨id, seq, tries⟩ y ⟨dst, kind, par, dat⟩ = (zeroMgr, zeroWre, zeroRsl) := by rw [askU, if_neg (by rw [HE.out]; exact hz)]
    have HUU := Lib.hid hU
    obtain ⟨x1, x2, x3, x4, x5, x6⟩ := row_facts r3
    obtain ⟨y1, y2, y3, y4, y5, y6⟩ := row_facts r4
    obtain ⟨z1, z2, z3, z4, z5, z6⟩ := row_facts r5
    have R3 := Lib.hid r3
    have R4 := Lib.hid r4
    have R5 := Lib.hid r5
    clear hz hU r0 r1 r2 r3 r4 r5
    go_wp2
    have hF3 : RowAt ((((((((((w1.setCell ⟨w.heap.size + 3, 0, none⟩ (.int .u64 0)).setCell ⟨w.heap.size + 3, 1, none⟩ (.int .i64 0)).setCell ⟨w.heap.size + 3, 2, none⟩ (.int .i64 0)).setCell ⟨w.heap.size + 4, 0, none⟩ (.slice none 0 0)).setCell ⟨w.heap.size + 4, 1, none⟩ (.slice none 0 0)).setCell ⟨w.heap.size + 4, 2, none⟩ (.slice none 0 0)).setCell ⟨w.heap.size + 5, 0, none⟩ (.int .i64 0)).setCell ⟨w.heap.size + 5, 1, none⟩ (.string ⟨#[]⟩)).setCell ⟨w.heap.size + 5, 2, none⟩ (.int .i64 0)).setCell ⟨w.heap.size + 5, 3, none⟩ (.int .i64 0)) (w.heap.size + 3) 24 #[.int .u64 0, .int .i64 0, .int .i64 0] := ((row3 R3.out).far3 (by omega)).far4 (by omega)
    have hF4 : RowAt ((((((((((w1.setCell ⟨w.heap.size + 3, 0, none⟩ (.int .u64 0)).setCell ⟨w.heap.size + 3, 1, none⟩ (.int .i64 0)).setCell ⟨w.heap.size + 3, 2, none⟩ (.int .i64 0)).setCell ⟨w.heap.size + 4, 0, none⟩ (.slice none 0 0)).setCell ⟨w.heap.size + 4, 1, none⟩ (.slice none 0 0)).setCell ⟨w.heap.size + 4, 2, none⟩ (.slice none 0 0)).setCell ⟨w.heap.size + 5, 0, none⟩ (.int .i64 0)).setCell ⟨w.heap.size + 5, 1, none⟩ (.string ⟨#[]⟩)).setCell ⟨w.heap.size + 5, 2, none⟩ (.int .i64 0)).setCell ⟨w.heap.size + 5, 3, none⟩ (.int .i64 0)) (w.heap.size + 4) 29 #[.slice none 0 0, .slice none 0 0, .slice none 0 0] := (row3 (R4.out.far3 (by omega))).far4 (by omega)
    have hF5 : RowAt ((((((((((w1.setCell ⟨w.heap.size + 3, 0, none⟩ (.int .u64 0)).setCell ⟨w.heap.size + 3, 1, none⟩ (.int .i64 0)).setCell ⟨w.heap.size + 3, 2, none⟩ (.int .i64 0)).setCell ⟨w.heap.size + 4, 0, none⟩ (.slice none 0 0)).setCell ⟨w.heap.size + 4, 1, none⟩ (.slice none 0 0)).setCell ⟨w.heap.size + 4, 2, none⟩ (.slice none 0 0)).setCell ⟨w.heap.size + 5, 0, none⟩ (.int .i64 0)).setCell ⟨w.heap.size + 5, 1, none⟩ (.string ⟨#[]⟩)).setCell ⟨w.heap.size + 5, 2, none⟩ (.int .i64 0)).setCell ⟨w.heap.size + 5, 3, none⟩ (.int .i64 0)) (w.heap.size + 5) 37 #[.int .i64 0, .string ⟨#[]⟩, .int .i64 0, .int .i64 0] := row4 ((R5.out.far3 (by omega)).far3 (by omega))
    have hFW : WireT ((((((((((w1.setCell ⟨w.heap.size + 3, 0, none⟩ (.int .u64 0)).setCell ⟨w.heap.size + 3, 1, none⟩ (.int .i64 0)).setCell ⟨w.heap.size + 3, 2, none⟩ (.int .i64 0)).setCell ⟨w.heap.size + 4, 0, none⟩ (.slice none 0 0)).setCell ⟨w.heap.size + 4, 1, none⟩ (.slice none 0 0)).setCell ⟨w.heap.size + 4, 2, none⟩ (.slice none 0 0)).setCell ⟨w.heap.size + 5, 0, none⟩ (.int .i64 0)).setCell ⟨w.heap.size + 5, 1, none⟩ (.string ⟨#[]⟩)).setCell ⟨w.heap.size + 5, 2, none⟩ (.int .i64 0)).setCell ⟨w.heap.size + 5, 3, none⟩ (.int .i64 0)) (.slice none 0 0) (.slice none 0 0) (.slice none 0 0) zeroWre := wire4 (wire3 (wire3 (wire_zero _) R3.out (by decide) (by decide) (by decide)) (R4.out.far3 (by omega)) (by decide) (by decide) (by decide)) ((R5.out.far3 (by omega)).far3 (by omega)) (by decide) (by decide) (by decide)
    have hFB : Below w.heap.size w ((((((((((w1.setCell ⟨w.heap.size + 3, 0, none⟩ (.int .u64 0)).setCell ⟨w.heap.size + 3, 1, none⟩ (.int .i64 0)).setCell ⟨w.heap.size + 3, 2, none⟩ (.int .i64 0)).setCell ⟨w.heap.size + 4, 0, none⟩ (.slice none 0 0)).setCell ⟨w.heap.size + 4, 1, none⟩ (.slice none 0 0)).setCell ⟨w.heap.size + 4, 2, none⟩ (.slice none 0 0)).setCell ⟨w.heap.size + 5, 0, none⟩ (.int .i64 0)).setCell ⟨w.heap.size + 5, 1, none⟩ (.string ⟨#[]⟩)).setCell ⟨w.heap.size + 5, 2, none⟩ (.int .i64 0)).setCell ⟨w.heap.size + 5, 3, none⟩ (.int .i64 0)) := below_four (below_three (below_three HB1.out (by omega)) (by omega)) (by omega)
    have f30 := cell_fact hF3 0
    have f31 := cell_fact hF3 1
    have f32 := cell_fact hF3 2
    have f40 := cell_fact hF4 0
    have f41 := cell_fact hF4 1
    have f42 := cell_fact hF4 2
    have f50 := cell_fact hF5 0
    have f51 := cell_fact hF5 1
    have f52 := cell_fact hF5 2
    have f53 := cell_fact hF5 3
    simp only [List.getElem?_toArray] at f30 f31 f32 f40 f41 f42 f50 f51 f52 f53
    rw [HUU.out]
    refine bodyPost_ret (v := .tuple #[.agg #[.int .u64 0, .int .i64 0, .int .i64 0], .agg #[.slice none 0 0, .slice none 0 0, .slice none 0 0], .agg #[.int .i64 0, .string ⟨#[]⟩, .int .i64 0, .int .i64 0], .int .i64 E]) ?_ rfl ⟨none, none, none, 0, 0, 0, 0, 0, 0, rfl, ?_, ?_⟩
    · simp [results, Tryz.results7, go_sem, f30, f31, f32, f40, f41, f42, f50, f51, f52, f53]
    · exact hFW
    · exact hFB
end Go.Proofs.YtpkhcehddfmhpaaGreat
