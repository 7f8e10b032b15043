/-
  One message that seeks, and what follows: the program.
  A range is searched: the program.
-/
import Derived.Test.YtpkhcehddfmhpaaGreatSc
import Derived.Test.YtpkhcehddfmhpaaGreatHr
import Derived.Deep.LoopGhost
namespace Go.Proofs.YtpkhcehddfmhpaaGreat
open Go.RowKit

set_option maxHeartbeats 4000000 in
set_option maxRecDepth 100000 in
theorem seek_any (A B s m : Nat) (sr : Int) (t : SSt) (low high : Int) (w : World) (h : SAt w B s m sr t (t.known ++ t.found)) (hB : A ≤ s) (hBm : A ≤ m) (hAB : A ≤ B ∧ B ≤ w.heap.size) (hk : Sok sr t) (h1 : isId low = true) (h2 : isId high = true) (hle : low ≤ high) :
    Calls Tryz.prog 106 #[.pointer (some ⟨s, 0, none⟩), .int .u64 low, .int .u64 high, .func (.func 107) #[.pointer (some ⟨s, 0, none⟩)] #[]] w
      fun e w' => e = .returned (.tuple #[.bool (againS sr low high t).2.2, .bool (againS sr low high t).2.1]) ∧ SAt w' B s m sr (againS sr low high t).1 ((againS sr low high t).1.known ++ (againS sr low high t).1.found) ∧ Stir A B s w w' := by
  have n1 := isId_nat h1
  have n2 := isId_nat h2
  have hdc := disc_chk hk.id hk.q0 hk.q1 h1 h2 hle
  have hdd := disc_dat (src := sr) (seq := t.seq) h1 h2
  obtain ⟨dd, hdd2⟩ : ∃ dd, bytesB low 6 ++ bytesB high 6 = dd := ⟨_, rfl⟩
  rw [hdd2] at hdd
  have CD : Hid (∀ W, Calls Tryz.prog 137 #[.int .u64 sr, .int .i64 t.seq, .int .u64 low, .int .u64 high] W fun e w' => e = .returned (.tuple #[.agg #[.int .u64 281474976710655, .int .u64 sr, .int .i64 t.seq, .int .i64 1, .int .i64 0, .string dd], .int .i64 0]) ∧ Below W.heap.size W w') := fun W => by
    refine (discover_any sr t.seq low high W (by omega) (by omega) (by omega) (by omega)).mono ?_
    rintro e w' ⟨a, n, rfl, hh, hb⟩
    have := hh.out
    rw [rightM, if_pos hdc, hdd] at this
    cases this
    exact ⟨rfl, hb⟩
  obtain ⟨M, hM⟩ : ∃ M, (⟨281474976710655, sr, t.seq, 1, 0, dd⟩ : Msg) = M := ⟨_, rfl⟩
  obtain ⟨p, hp⟩ : ∃ p, hearM (discM sr t.seq low high) (sentA t.devs (discM sr t.seq low high)) = p := ⟨_, rfl⟩
  obtain ⟨t1, ht1⟩ : ∃ t1, sendS t (discM sr t.seq low high) = t1 := ⟨_, rfl⟩
  obtain ⟨kk, id⟩ := p
  have hways := again_ways hp ht1
  have hkinds := hear_kinds (discM sr t.seq low high) (sentA t.devs (discM sr t.seq low high))
  have hK : t1.known ++ t1.found = t.known ++ t.found := by rw [← ht1]; rfl
  have hans := seek_right (seq := t.seq) hk.id hk.q0 hk.q1 h1 h2 hle (devs_chk hk.devs)
  have hlen : (sentA t.devs (discM sr t.seq low high)).length ≤ 64 := Nat.le_trans (sentA_length _ _) (devs_few hk.devs)
  have hok1 := seek_ok hk h1 h2
  have hsome := @hear_some (discM sr t.seq low high) (sentA t.devs (discM sr t.seq low high))
  rw [hp] at hkinds hsome
  rw [disc_low h1 h2, disc_high h1 h2] at hsome
  have hid : kk = 1 → isId id = true := fun e => by
    have := hsome e
    exact decide_eq_true (by simp only at this; omega)
  rw [ht1] at hok1
  rw [hdd] at hp ht1 hans hlen hdc
  have HKN := Lib.hid hkinds
  have HID := Lib.hid hid
  have HK := Lib.hid hk
  have HOK := Lib.hid hok1
  have HW := Lib.hid hways
  have HKK := Lib.hid hK
  have HA := Lib.hid (And.intro hans hlen)
  have HP := Lib.hid hp
  have HT := Lib.hid ht1
  have HDC := Lib.hid hdc
  have HS := Lib.hid h
  have hlt := h.lt
  have hBw : A ≤ w.heap.size := by omega
  obtain ⟨⟨vd, vf, hr, hdv, hown, hty, hnil⟩, hs⟩ := h
  have hr' : RowAt w s 151 #[vd, .int .u64 sr, .int .i64 t.seq, .map (some m), vf, .int .i64 (IntKind.i64.wrap t.msgs)] := hr
  have c1 : w.cell? ⟨s, 1, none⟩ = some (.int .u64 sr) := cell_fact hr 1
  have c2 : w.cell? ⟨s, 2, none⟩ = some (.int .i64 t.seq) := cell_fact hr 2
  obtain ⟨x1, x2, x3, x4, x5, x6⟩ := row_facts hr
  have hdn : ∃ N, IntKind.i64.wrap (t.msgs : Int) = N := ⟨_, rfl⟩
  obtain ⟨N, hN⟩ := hdn
  rw [hN] at hr'
  clear hkinds hid hsome x1 hr hdv hown hty hnil hs hk h1 h2 hle hdc hdd hdd2 hp ht1 hways hK hans hlen hok1 hM hN n1 n2
  go_enter Tryz.func106, Tryz.ntmps106
  go_wp2_with fail
  go_cut [10, 11] (fun s10 s11 wx => ∃ k : Nat, s10 = .pointer (some ⟨k, 0, none⟩) ∧ s11 = .int .i64 0 ∧ w.heap.size ≤ k ∧ RowAt wx k 52 #[.int .u64 281474976710655, .int .u64 sr, .int .i64 t.seq, .int .i64 1, .int .i64 0, .string dd] ∧ Below w.heap.size w wx)
  case first =>
    go_region_held3 (fun w' => w'.cell? ⟨s, 1, none⟩ = some (.int .u64 sr) ∧ w'.cell? ⟨s, 2, none⟩ = some (.int .i64 t.seq)) (go_keep)
      ((go_at_call 137; refine (CD.out _).mono ?_; rintro e w1 ⟨rfl, hb⟩; have hz1 := hb.size; (try simp at hz1); (try (have hn : ¬ s = w1.heap.size := (by omega); have hn' : ¬ w1.heap.size = s := (by omega))); have hS1 : RowAt w1 s 151 #[vd, .int .u64 sr, .int .i64 t.seq, .map (some m), vf, .int .i64 N] := (by (repeat' (first | (with_reducible assumption) | (with_reducible refine RowAt.drewN ?_ _) | (with_reducible refine RowAt.drew ?_) | (with_reducible apply RowAt.six) | (with_reducible apply RowAt.seven) | ((with_reducible refine RowAt.mk ?_ ?_); (focus (first | rfl | (simp; done))); rfl) | (with_reducible refine RowAt.alloc ?_ _) | (with_reducible refine RowAt.far ?_ ?_) | (with_reducible refine RowAt.run ?_ (by assumption)) | (with_reducible refine RowAt.below ?_ (by assumption) ?_) | (with_reducible refine RowAt.upd ?_ (by assumption) ?_) | (show _ < _; first | omega | (simp; done) | (simp; omega)) | (show ¬ _ = _; first | omega | (simp; done) | (simp; omega)) | exact rfl))); obtain ⟨hS1a, hS1b, hS1c, hS1d, hS1e, hS1f⟩ := row_facts hS1; (try (refine have_of (p := RowAt w1 w.heap.size 52 #[.int .u64 0, .int .u64 0, .int .i64 0, .int .i64 0, .int .i64 0, .string ⟨#[]⟩]) ?_ ?_; (focus ((repeat' (first | (with_reducible assumption) | (with_reducible refine RowAt.drewN ?_ _) | (with_reducible refine RowAt.drew ?_) | (with_reducible apply RowAt.seven) | (with_reducible apply RowAt.six) | (with_reducible refine RowAt.far7 ?_ ?_) | (with_reducible refine RowAt.far6 ?_ ?_) | (with_reducible refine RowAt.far1 ?_ ?_) | ((with_reducible refine RowAt.mk ?_ ?_); (focus (first | (with_reducible rfl) | (simp; done))); rfl) | (with_reducible refine RowAt.alloc ?_ _) | (with_reducible refine RowAt.run ?_ (by assumption)) | (with_reducible refine RowAt.below ?_ (by assumption) ?_) | (with_reducible refine RowAt.upd ?_ (by assumption) ?_) | (with_reducible show _ < _; first | omega | (simp; done) | (simp; omega)) | (with_reducible show ¬ _ = _; first | omega | (simp; done) | (simp; omega)) | (with_reducible exact rfl))); done)); intro hx; obtain ⟨x1, x2, x3, x4, x5, x6⟩ := row_facts hx))))
    all_goals (go_wp2_with fail; go_meet)
    all_goals (refine ⟨_, rfl, rfl, ?_, ?_, ?_⟩; (focus omega); (focus ((repeat' (first | (with_reducible assumption) | (with_reducible refine RowAt.drewN ?_ _) | (with_reducible refine RowAt.drew ?_) | (with_reducible apply RowAt.seven) | (with_reducible apply RowAt.six) | (with_reducible refine RowAt.far7 ?_ ?_) | (with_reducible refine RowAt.far6 ?_ ?_) | (with_reducible refine RowAt.far1 ?_ ?_) | ((with_reducible refine RowAt.mk ?_ ?_); (focus (first | (with_reducible rfl) | (simp; done))); rfl) | (with_reducible refine RowAt.alloc ?_ _) | (with_reducible refine RowAt.run ?_ (by assumption)) | (with_reducible refine RowAt.below ?_ (by assumption) ?_) | (with_reducible refine RowAt.upd ?_ (by assumption) ?_) | (with_reducible show _ < _; first | omega | (simp; done) | (simp; omega)) | (with_reducible show ¬ _ = _; first | omega | (simp; done) | (simp; omega)) | (with_reducible exact rfl))); done)); ((repeat' (first | (with_reducible exact Below.refl _ _) | (with_reducible assumption) | (with_reducible refine below_run ?_ (by assumption)) | (with_reducible refine below_of_upd ?_ (by assumption) ?_) | (with_reducible refine below_drewN ?_ _) | (with_reducible refine Below.drew ?_) | (with_reducible refine below_seven ?_ ?_) | (with_reducible refine below_six ?_ ?_) | (with_reducible refine below_one ?_ ?_) | (with_reducible refine Below.alloc ?_ ?_ _) | (with_reducible refine below_after ?_ ?_ (by assumption)) | (show _ ≤ _; first | omega | (simp; done) | (simp; omega)))); done))
  case rest =>
    obtain ⟨k, rfl, rfl, hkz, hrm, hbx⟩ := hcut
    obtain ⟨m1, m2, m3, m4, m5, m6⟩ := row_facts hrm
    have hsx := HS.out.run hbx
    have hstx : Stir A B s w wc := stir_run (stir_refl A B s w) hbx hBw
    clear c1 c2 x2 x3 x4 x5 x6 hbx hr' CD
    go_wp2_with fail
    go_region_held3 (fun w' => w'.cell? ⟨k, 0, none⟩ = some (.int .u64 281474976710655) ∧ w'.cell? ⟨k, 1, none⟩ = some (.int .u64 sr) ∧ w'.cell? ⟨k, 2, none⟩ = some (.int .i64 t.seq) ∧ w'.cell? ⟨k, 3, none⟩ = some (.int .i64 1) ∧ w'.cell? ⟨k, 4, none⟩ = some (.int .i64 0) ∧ w'.cell? ⟨k, 5, none⟩ = some (.string dd)) (go_keep)
      (first | (go_at_call 103; refine (send_any A B s m sr t _ 281474976710655 sr t.seq 1 0 dd _ (SAt.drew hsx) hB HK.out.devs HDC.out HK.out.q0 HK.out.q1).mono ?_; rintro e w2 ⟨v, rfl, ha, hs2, hst2⟩; have hrm2 := hst2.rows k _ _ (by exact hrm) (by omega) (.inl rfl); obtain ⟨p1, p2, p3, p4, p5, p6⟩ := row_facts hrm2) | (go_at_call 138; refine (understood_any v _ 281474976710655 sr t.seq 1 0 dd _ ha HA.out.2 HA.out.1 HDC.out rfl).mono ?_; rintro e w3 ⟨k', id', rfl, hh, hb3⟩; have hh2 := hh.out; rw [HP.out] at hh2; obtain ⟨rfl, rfl⟩ := Prod.mk.inj hh2; clear hh hh2; have hrm3 := hrm2.run hb3; obtain ⟨q1, q2, q3, q4, q5, q6⟩ := row_facts hrm3))
    have hs3 := hs2.run hb3
    rw [HT.out, ← HKK.out] at hs3
    have hst3 := stir_run (stir_trans (stir_drew hstx) hst2.weak) hb3 (Nat.le_trans hB (Nat.le_of_lt hs2.lt.1))
    have hlt3 := hs3.lt
    have c3 : w3.cell? ⟨s, 3, none⟩ = some (.map (some m)) := by
      obtain ⟨⟨vd, vf, hr, _⟩, _⟩ := hs3
      exact cell_fact hr 3
    have HST := Lib.hid hst3
    have HS3 := Lib.hid hs3
    clear hst2 hs2 hst3 hs3 hstx hsx ha hb3 m1 m2 m3 m4 m5 m6 p1 p2 p3 p4 p5 p6 q1 q2 q3 q4 q5 q6 hrm hrm2 hrm3
    rcases HKN.out with hk0 | hk2 | hk1
    · have HE := Lib.hid (HW.out.1 hk0)
      obtain rfl : kk = 0 := hk0
      go_wp2
      go_ret2
      rw [HE.out]
      exact ⟨rfl, HS3.out, HST.out⟩
    · have HE := Lib.hid (HW.out.2.1 hk2)
      obtain rfl : kk = 2 := hk2
      go_wp2
      go_ret2
      rw [HE.out]
      exact ⟨rfl, HS3.out, HST.out⟩
    · have HE := Lib.hid (HW.out.2.2.1 hk1)
      have HE1 := Lib.hid (HW.out.2.2.2.1 hk1)
      have HE2 := Lib.hid (HW.out.2.2.2.2 hk1)
      have HID1 := Lib.hid (HID.out hk1)
      obtain rfl : kk = 1 := hk1
      by_cases hm : id ∈ t1.known ++ t1.found
      · have hlk := seen_look HS3.out.seen id
        rw [show decide (id ∈ t1.known ++ t1.found) = true from decide_eq_true hm] at hlk
        have HM := Lib.hid hm
        clear hm
        go_wp2
        go_ret2
        rw [HE.out HM.out]
        exact ⟨rfl, HS3.out, HST.out⟩
      · have hlk := seen_look HS3.out.seen id
        rw [show decide (id ∈ t1.known ++ t1.found) = false from decide_eq_false hm] at hlk
        have C := Lib.hid (mute_any A B s m sr t1 _ id w3 HS3.out hB hBm HOK.out.devs (ord_chk HOK.out.id HOK.out.q0 HOK.out.q1 (.inl rfl) (.inl HID1.out)) HOK.out.q0 HOK.out.q1 hm)
        have HM := Lib.hid hm
        clear hm
        obtain ⟨q, hq⟩ : ∃ q, orderB sr t1 2 id = q := ⟨_, rfl⟩
        rw [hq] at C
        have HQ := Lib.hid hq
        clear hq
        cases q with
        | false =>
          go_wp2_with fail
          refine C.out.mono ?_
          rintro e w4 ⟨rfl, hs4, hst4⟩
          go_wp2
          go_ret2
          rw [HE2.out HM.out HQ.out]
          exact ⟨rfl, hs4, stir_trans HST.out hst4.weak⟩
        | true =>
          go_wp2_with fail
          refine C.out.mono ?_
          rintro e w4 ⟨rfl, hs4, hst4⟩
          have C2 := Lib.hid (note_any A B s m sr _ _ id w4 hs4 hB ⟨hAB.1, by have := (stir_trans HST.out hst4.weak).below.size; omega⟩ (by show t1.found.length ≤ 1000; have := HOK.out.few; omega))
          clear hs4
          go_wp2_with fail
          refine C2.out.mono ?_
          rintro e w5 ⟨rfl, hs5, hst5⟩
          go_wp2
          go_ret2
          rw [HE1.out HM.out HQ.out]
          refine ⟨rfl, ?_, stir_trans (stir_trans HST.out hst4.weak) hst5⟩
          show SAt w5 B s m sr _ (t1.known ++ (t1.found ++ [id]))
          rw [← List.append_assoc]
          exact hs5
end Go.Proofs.YtpkhcehddfmhpaaGreat

namespace Go.Proofs.YtpkhcehddfmhpaaGreat
open Go.RowKit

theorem round_step {src low high : Int} (t : SSt) : roundS src low high (freeS t + 1) t = if (againS src low high t).2.1 then roundS src low high (freeS (againS src low high t).1 + 1) (againS src low high t).1 else ((againS src low high t).1, (againS src low high t).2.2) := by
  rw [roundS]
  by_cases h : (againS src low high t).2.1 = true
  · rw [if_pos h, if_pos h]
    have := again_less h
    exact round_more _ _ _ this (by omega)
  · rw [if_neg h, if_neg h]
theorem round_ok {src low high : Int} (h1 : isId low = true) (h2 : isId high = true) : ∀ (f : Nat) (t : SSt), Sok src t → Sok src (roundS src low high f t).1
  | 0, _, h => h
  | f + 1, t, h => by
    rw [roundS]
    split
    · exact round_ok h1 h2 f _ (again_ok h h1 h2)
    · exact again_ok h h1 h2
theorem middle_in {low high : Int} (h1 : isId low = true) (h2 : isId high = true) (hle : low < high) : isId (middle low high) = true ∧ isId (middle low high + 1) = true ∧ low ≤ middle low high ∧ middle low high + 1 ≤ high := by
  have a := isId_nat h1
  have b := isId_nat h2
  have hm : middle low high = low + (high - low) / 2 := rfl
  exact ⟨decide_eq_true (by omega), decide_eq_true (by omega), by omega, by omega⟩
theorem search_ok {src : Int} : ∀ (d : Nat) (low high : Int) (t : SSt), isId low = true → isId high = true → low ≤ high → Sok src t → Sok src (searchS src d low high t)
  | 0, low, high, t, h1, h2, hle, h => by
    rw [searchS]
    exact round_ok h1 h2 _ _ h
  | d + 1, low, high, t, h1, h2, hle, h => by
    rw [searchS]
    split
    · exact round_ok h1 h2 _ _ h
    · rename_i hc
      have hne : low ≠ high := fun e => hc (.inr e)
      obtain ⟨m1, m2, m3, m4⟩ := middle_in h1 h2 (by omega)
      exact search_ok d _ _ _ m2 h2 m4 (search_ok d _ _ _ h1 m1 m3 (round_ok h1 h2 _ _ h))

/-- What the search of a range leaves. -/
def AllPost (A B s m : Nat) (sr : Int) (u : SSt) (w : World) (e : Ending) (w' : World) : Prop := e = .returned (.tuple #[]) ∧ SAt w' B s m sr u (u.known ++ u.found) ∧ Stir A B s w w'

/-- The contract of the search of a range, of some depth. -/
def AllSays (A B s m k3 k6 : Nat) (sr : Int) (d : Nat) : Prop := ∀ (low high : Int) (t : SSt) (w : World), B ≤ w.heap.size → isId low = true → isId high = true → low ≤ high → high - low < 2 ^ d → Sok sr t → SAt w B s m sr t (t.known ++ t.found) →
    RowAt w k3 144 #[.pointer (some ⟨s, 0, none⟩)] → RowAt w k6 148 #[.func (.func 105) #[] #[.pointer (some ⟨k3, 0, none⟩), .pointer (some ⟨k6, 0, none⟩)]] →
    Calls Tryz.prog 105 #[.int .u64 low, .int .u64 high, .pointer (some ⟨k3, 0, none⟩), .pointer (some ⟨k6, 0, none⟩)] w (AllPost A B s m sr (searchS sr d low high t) w)

theorem search_done {src low high : Int} {t q : SSt} {b : Bool} (d : Nat) (h : roundS src low high (freeS t + 1) t = (q, b)) (hb : b = true ∨ low = high) : searchS src d low high t = q := by
  cases d with
  | zero => rw [searchS, h]
  | succ d => rw [searchS, h, if_pos hb]
theorem search_on {src low high : Int} {t q : SSt} (d : Nat) (h : roundS src low high (freeS t + 1) t = (q, false)) (hb : low ≠ high) : searchS src (d + 1) low high t = searchS src d (middle low high + 1) high (searchS src d low (middle low high) q) := by
  rw [searchS, h, if_neg (by simp [hb])]

set_option maxHeartbeats 8000000 in
set_option maxRecDepth 100000 in
theorem all1_body (A B s m k3 k6 : Nat) (sr : Int) (hB : A ≤ s) (hBm : A ≤ m) (hAB : A ≤ B) (hk3 : k3 ≠ s) (hk6 : k6 ≠ s) (d : Nat) (ih : ∀ d', d = d' + 1 → AllSays A B s m k3 k6 sr d') : AllSays A B s m k3 k6 sr d := by
  intro low high t w hBz h1 h2 hle hd hok hs hr3 hr6
  have HIH := Lib.hid ih
  have H1 := Lib.hid h1
  have H2 := Lib.hid h2
  have HD := Lib.hid hd
  have HLE := Lib.hid hle
  have HOK := Lib.hid hok
  have C := Lib.hid (seek_any A B s m sr t low high w hs hB hBm ⟨hAB, hBz⟩ hok h1 h2 hle)
  have R3 := Lib.hid hr3
  have R6 := Lib.hid hr6
  have HAO := Lib.hid (again_ok hok h1 h2)
  have HRO := Lib.hid (round_ok h1 h2 (freeS t + 1) t hok)
  obtain ⟨r, hr⟩ : ∃ r, againS sr low high t = r := ⟨_, rfl⟩
  have HRS := Lib.hid (round_step (src := sr) (low := low) (high := high) t)
  rw [hr] at C HAO HRS
  obtain ⟨a1, a2, a3, a4, a5, a6⟩ := row_facts hr3
  clear ih h1 h2 hd hle hok hr hs hr6
  go_enter Tryz.func105, Tryz.ntmps105
  go_wp2_with fail
  refine C.out.mono ?_
  rintro e w1 ⟨rfl, hs1, hst1⟩
  have HS1 := Lib.hid hs1
  have HST1 := Lib.hid hst1
  clear a1 a2 a3 a4 a5 a6 hr3 C hs1 hst1
  go_wp2_with fail
  go_loopg [6, 7] (if r.2.1 then freeS r.1 + 1 else 0) (fun n e mo wr => ∃ q : SSt × Bool × Bool, n = (if q.2.1 then freeS q.1 + 1 else 0) ∧ e = .bool q.2.2 ∧ mo = .bool q.2.1 ∧ SAt wr B s m sr q.1 (q.1.known ++ q.1.found) ∧ Sok sr q.1 ∧ Stir A B s w wr ∧
    Hid (roundS sr low high (freeS t + 1) t = if q.2.1 then roundS sr low high (freeS q.1 + 1) q.1 else (q.1, q.2.2)))
  case atStart => exact ⟨r, rfl, rfl, rfl, HS1.out, HAO.out, HST1.out, HRS.out⟩
  case round =>
    obtain ⟨q, hn, rfl, rfl, hsq, hokq, hstq, heq⟩ := hrel
    obtain ⟨qt, qm, qe⟩ := q
    have R3q := Lib.hid (hstq.rows _ _ _ R3.out hk3 (.inr (.inl (by decide))))
    have R6q := Lib.hid (hstq.rows _ _ _ R6.out hk6 (.inr (.inl (by decide))))
    obtain ⟨a1, a2, a3, a4, a5, a6⟩ := row_facts R3q.out
    have HN := Lib.hid hn
    have hBr : B ≤ wr.heap.size := Nat.le_trans hBz hstq.below.size
    have HST := Lib.hid hstq
    have HSQ := Lib.hid hsq
    have HOQ := Lib.hid hokq
    clear hn hstq hsq hokq HS1 HST1 HAO HRS
    cases qm with
    | true =>
      have C := Lib.hid (seek_any A B s m sr qt low high wr HSQ.out hB hBm ⟨hAB, hBr⟩ HOQ.out H1.out H2.out HLE.out)
      have HAO := Lib.hid (again_ok HOQ.out H1.out H2.out)
      have HLS := Lib.hid (@again_less sr low high qt)
      have HRS := Lib.hid (round_step (src := sr) (low := low) (high := high) qt)
      obtain ⟨r2, hr2⟩ : ∃ r2, againS sr low high qt = r2 := ⟨_, rfl⟩
      rw [hr2] at C HAO HLS HRS
      clear hr2
      go_wp2_with fail
      refine C.out.mono ?_
      rintro e w2 ⟨rfl, hs2, hst2⟩
      have HS2 := Lib.hid hs2
      have HST2 := Lib.hid (stir_trans HST.out hst2)
      clear hs2 hst2 C a1 a2 a3 a4 a5 a6
      go_wp2_with fail
      go_roundg (if r2.2.1 then freeS r2.1 + 1 else 0)
      case measure =>
        have h1 := HN.out
        simp only [if_true] at h1
        rw [h1]
        split
        · rename_i hx
          have := HLS.out hx
          omega
        · omega
      case rel => exact ⟨r2, rfl, rfl, rfl, HS2.out, HAO.out, HST2.out, by show _ = _; rw [heq.out, ← HRS.out]; rfl⟩
    | false =>
      have heq2 : Hid (roundS sr low high (freeS t + 1) t = (qt, qe)) := heq.out
      clear heq HN
      cases qe with
      | true =>
        go_wp2
        go_end0
        rw [AllPost, search_done d heq2.out (.inl rfl)]
        exact ⟨rfl, HSQ.out, HST.out⟩
      | false =>
        by_cases hlh : low = high
        · have HLH := Lib.hid hlh
          have hlb : (low == high) = true := by simpa using hlh
          clear hlh
          go_wp2
          go_end0
          rw [AllPost, search_done d heq2.out (.inr HLH.out)]
          exact ⟨rfl, HSQ.out, HST.out⟩
        · have HLH := Lib.hid hlh
          have hlb : (low == high) = false := by simpa using hlh
          have n1 := isId_nat H1.out
          have n2 := isId_nat H2.out
          have hle := HLE.out
          obtain ⟨m1, m2, m3, m4⟩ := middle_in H1.out H2.out (by omega)
          have hmid : middle low high = low + (high - low) / 2 := rfl
          obtain ⟨d', hd'⟩ : ∃ d', d = d' + 1 := by
            cases d with
            | zero =>
              have := HD.out
              have e : (2 : Int) ^ 0 = 1 := rfl
              omega
            | succ d => exact ⟨d, rfl⟩
          have hp : high - low < 2 ^ d' * 2 := by
            have := HD.out
            rw [hd', Int.pow_succ] at this
            exact this
          have f1 : IntKind.u64.wrap (high - low) = high - low := IntWalk.u64_in _ (by omega)
          have f2 : (high - low).tdiv 2 = (high - low) / 2 := Int.tdiv_eq_ediv_of_nonneg (by omega)
          have f3 : IntKind.u64.wrap ((high - low) / 2) = (high - low) / 2 := IntWalk.u64_in _ (by omega)
          have f4 : IntKind.u64.wrap (low + (high - low) / 2) = middle low high := by rw [hmid]; exact IntWalk.u64_in _ (by omega)
          have f5 : IntKind.u64.wrap (middle low high + 1) = middle low high + 1 := IntWalk.u64_in _ (by omega)
          obtain ⟨M, hM⟩ : ∃ M, middle low high = M := ⟨_, rfl⟩
          have HON := Lib.hid (search_on d' heq2.out hlh)
          have C1 := Lib.hid (HIH.out d' hd' low (middle low high) qt wr hBr H1.out m1 m3 (by omega) HOQ.out HSQ.out R3q.out R6q.out)
          have HO1 := Lib.hid (search_ok d' low (middle low high) qt H1.out m1 m3 HOQ.out)
          have HM := Lib.hid (And.intro m2 (And.intro m4 (show high - (middle low high + 1) < 2 ^ d' by omega)))
          rw [hM] at f4 f5 HON C1 HO1 HM
          obtain ⟨u, hu⟩ : ∃ u, searchS sr d' low M qt = u := ⟨_, rfl⟩
          rw [hu] at HON C1 HO1
          obtain ⟨b1, b2, b3, b4, b5, b6⟩ := row_facts R6q.out
          have HDD := Lib.hid hd'
          clear hlh n1 n2 hle m1 m2 m3 m4 hmid hd' hp hM hu heq2
          go_wp2_with fail
          refine C1.out.mono ?_
          rintro e w2 ⟨rfl, hs2, hst2⟩
          have R32 := hst2.rows _ _ _ R3q.out hk3 (.inr (.inl (by decide)))
          have R62 := hst2.rows _ _ _ R6q.out hk6 (.inr (.inl (by decide)))
          have C2 := Lib.hid (HIH.out d' HDD.out (M + 1) high u w2 (Nat.le_trans hBr hst2.below.size) HM.out.1 H2.out HM.out.2.1 HM.out.2.2 HO1.out hs2 R32 R62)
          obtain ⟨c1, c2, c3, c4, c5, c6⟩ := row_facts R62
          have HST2 := Lib.hid (stir_trans HST.out hst2)
          clear R32 R62 hs2 hst2 C1 a1 a2 a3 a4 a5 a6 b1 b2 b3 b4 b5 b6
          go_wp2_with fail
          refine C2.out.mono ?_
          rintro e w3 ⟨rfl, hs3, hst3⟩
          have HST3 := Lib.hid (stir_trans HST2.out hst3)
          have HS3 := Lib.hid hs3
          clear hs3 hst3
          go_wp2
          go_end0
          have hd := HDD.out
          subst hd
          rw [AllPost, HON.out]
          exact ⟨rfl, HS3.out, HST3.out⟩

theorem all1_any (A B s m k3 k6 : Nat) (sr : Int) (hB : A ≤ s) (hBm : A ≤ m) (hAB : A ≤ B) (hk3 : k3 ≠ s) (hk6 : k6 ≠ s) (d : Nat) : AllSays A B s m k3 k6 sr d := by
  induction d with
  | zero => exact all1_body A B s m k3 k6 sr hB hBm hAB hk3 hk6 0 fun d' e => by cases e
  | succ d ih =>
    refine all1_body A B s m k3 k6 sr hB hBm hAB hk3 hk6 (d + 1) fun d' e => ?_
    cases e
    exact ih
end Go.Proofs.YtpkhcehddfmhpaaGreat
