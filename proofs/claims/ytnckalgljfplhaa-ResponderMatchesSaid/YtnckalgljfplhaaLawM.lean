/-
  The walk of the law on what matches.
-/
import Derived.Test.YtnckalgljfplhaaLawR
import Derived.Test.YtnckalgljfplhaaPlain
namespace Go.Proofs.Ytnckalgljfplhaa
open Go.RowKit

theorem matches_is (q : Bool) (dst src seq kind par dst' src' seq' kind' par' : Int) (dat dat' : ByteArray) (w : World) (h : Hid (matchesM ⟨dst, src, seq, kind, par, dat⟩ ⟨dst', src', seq', kind', par', dat'⟩ = q)) :
    Calls Try.prog 25 #[.agg #[.int .u64 dst, .int .u64 src, .int .i64 seq, .int .i64 kind, .int .i64 par, .string dat], .agg #[.int .u64 dst', .int .u64 src', .int .i64 seq', .int .i64 kind', .int .i64 par', .string dat']] w fun e w' => e = .returned (.bool q) ∧ Below w.heap.size w w' := by
  have := matches_any dst src seq kind par dst' src' seq' kind' par' dat dat' w
  rw [h.out] at this
  exact this

set_option maxHeartbeats 4000000 in
set_option maxRecDepth 100000 in
theorem law_matches (id ft ad hr dst src seq kind par : Int) (lb dat : ByteArray) (mu idf : Bool) (w : World) (hl : lb.size ≤ 9223372036854775807) (hds : dat.size ≤ 9223372036854775807) :
    Calls Try.prog 7 #[.agg #[.int .u64 id, .int .i64 ft, .int .i64 ad, .string lb, .int .i64 hr, .bool mu, .bool idf], .agg #[.int .u64 dst, .int .u64 src, .int .i64 seq, .int .i64 kind, .int .i64 par, .string dat]] w fun e w' => e = .returned (.bool true) ∧ Below w.heap.size w w' := by
  obtain ⟨n1, h1⟩ : ∃ n, chkD ⟨id, ft, ad, lb, hr, mu, idf⟩ = n := ⟨_, rfl⟩
  have H1 := Lib.hid h1
  obtain ⟨n2, h2⟩ : ∃ n, chk ⟨dst, src, seq, kind, par, dat⟩ = n := ⟨_, rfl⟩
  have H2 := Lib.hid h2
  obtain ⟨q2, h3⟩ : ∃ q, decide (dat.size ≤ 510) = q := ⟨_, rfl⟩
  have H3 := Lib.hid h3
  clear h1 h2 h3
  by_cases z1 : n1 = 0
  · subst z1
    cases q2
    · go_enter Try.func7, Try.ntmps7
      go_wp2_with fail
      refine (refdchk_is 0 _ _ _ _ _ _ _ _ H1 hl).mono ?_
      rintro e w1 ⟨rfl, hb⟩
      have hz1 := hb.size
      (try simp at hz1)
      have k1_0 : RowAt w1 w.heap.size 24 #[.int .u64 id, .int .i64 ft, .int .i64 ad, .string lb, .int .i64 hr, .bool mu, .bool idf] := (by (repeat' (first | (with_reducible assumption) | (with_reducible refine RowAt.drewN ?_ _) | (with_reducible refine RowAt.drew ?_) | (with_reducible apply RowAt.six) | (with_reducible apply RowAt.seven) | ((with_reducible refine RowAt.mk ?_ ?_); (focus (first | rfl | (simp; done))); rfl) | (with_reducible refine RowAt.alloc ?_ _) | (with_reducible refine RowAt.far ?_ ?_) | (with_reducible refine RowAt.run ?_ (by assumption)) | (with_reducible refine RowAt.below ?_ (by assumption) ?_) | (with_reducible refine RowAt.upd ?_ (by assumption) ?_) | (show _ < _; first | omega | (simp; done) | (simp; omega)) | (show ¬ _ = _; first | omega | (simp; done) | (simp; omega)) | exact rfl))); obtain ⟨k1_0a, k1_0b, k1_0c, k1_0d, k1_0e, k1_0f⟩ := row_facts k1_0
      have k1_1 : RowAt w1 (w.heap.size + 1) 26 #[.int .u64 dst, .int .u64 src, .int .i64 seq, .int .i64 kind, .int .i64 par, .string dat] := (by (repeat' (first | (with_reducible assumption) | (with_reducible refine RowAt.drewN ?_ _) | (with_reducible refine RowAt.drew ?_) | (with_reducible apply RowAt.six) | (with_reducible apply RowAt.seven) | ((with_reducible refine RowAt.mk ?_ ?_); (focus (first | rfl | (simp; done))); rfl) | (with_reducible refine RowAt.alloc ?_ _) | (with_reducible refine RowAt.far ?_ ?_) | (with_reducible refine RowAt.run ?_ (by assumption)) | (with_reducible refine RowAt.below ?_ (by assumption) ?_) | (with_reducible refine RowAt.upd ?_ (by assumption) ?_) | (show _ < _; first | omega | (simp; done) | (simp; omega)) | (show ¬ _ = _; first | omega | (simp; done) | (simp; omega)) | exact rfl))); obtain ⟨k1_1a, k1_1b, k1_1c, k1_1d, k1_1e, k1_1f⟩ := row_facts k1_1
      go_wp2_with fail
      refine (fewmsg_is false _ _ _ _ _ _ _ H3).mono ?_
      rintro e w2 ⟨rfl, hb⟩
      have hz2 := hb.size
      (try simp at hz2)
      have k2_0 : RowAt w2 w.heap.size 24 #[.int .u64 id, .int .i64 ft, .int .i64 ad, .string lb, .int .i64 hr, .bool mu, .bool idf] := (by (repeat' (first | (with_reducible assumption) | (with_reducible refine RowAt.drewN ?_ _) | (with_reducible refine RowAt.drew ?_) | (with_reducible apply RowAt.six) | (with_reducible apply RowAt.seven) | ((with_reducible refine RowAt.mk ?_ ?_); (focus (first | rfl | (simp; done))); rfl) | (with_reducible refine RowAt.alloc ?_ _) | (with_reducible refine RowAt.far ?_ ?_) | (with_reducible refine RowAt.run ?_ (by assumption)) | (with_reducible refine RowAt.below ?_ (by assumption) ?_) | (with_reducible refine RowAt.upd ?_ (by assumption) ?_) | (show _ < _; first | omega | (simp; done) | (simp; omega)) | (show ¬ _ = _; first | omega | (simp; done) | (simp; omega)) | exact rfl))); obtain ⟨k2_0a, k2_0b, k2_0c, k2_0d, k2_0e, k2_0f⟩ := row_facts k2_0
      have k2_1 : RowAt w2 (w.heap.size + 1) 26 #[.int .u64 dst, .int .u64 src, .int .i64 seq, .int .i64 kind, .int .i64 par, .string dat] := (by (repeat' (first | (with_reducible assumption) | (with_reducible refine RowAt.drewN ?_ _) | (with_reducible refine RowAt.drew ?_) | (with_reducible apply RowAt.six) | (with_reducible apply RowAt.seven) | ((with_reducible refine RowAt.mk ?_ ?_); (focus (first | rfl | (simp; done))); rfl) | (with_reducible refine RowAt.alloc ?_ _) | (with_reducible refine RowAt.far ?_ ?_) | (with_reducible refine RowAt.run ?_ (by assumption)) | (with_reducible refine RowAt.below ?_ (by assumption) ?_) | (with_reducible refine RowAt.upd ?_ (by assumption) ?_) | (show _ < _; first | omega | (simp; done) | (simp; omega)) | (show ¬ _ = _; first | omega | (simp; done) | (simp; omega)) | exact rfl))); obtain ⟨k2_1a, k2_1b, k2_1c, k2_1d, k2_1e, k2_1f⟩ := row_facts k2_1
      go_wp2_with fail
      refine (awake_any _).mono ?_
      rintro e w3 ⟨rfl, hb⟩
      have hz3 := hb.size
      (try simp at hz3)
      go_wp2
      go_ret
      exact ⟨rfl, by (repeat' (first | (with_reducible exact Below.refl _ _) | (with_reducible assumption) | (with_reducible refine below_run ?_ (by assumption)) | (with_reducible refine below_of_upd ?_ (by assumption) ?_) | (with_reducible refine below_drewN ?_ _) | (with_reducible refine Below.drew ?_) | (with_reducible refine below_seven ?_ ?_) | (with_reducible refine below_six ?_ ?_) | (with_reducible refine below_one ?_ ?_) | (with_reducible refine Below.alloc ?_ ?_ _) | (with_reducible refine below_after ?_ ?_ (by assumption)) | (show _ ≤ _; first | omega | (simp; done) | (simp; omega))))⟩
    by_cases z2 : n2 = 0
    · subst z2
      have hx := recv_chk ⟨id, ft, ad, lb, hr, mu, idf⟩ ⟨dst, src, seq, kind, par, dat⟩ H1.out
      have hno := recv_none ⟨id, ft, ad, lb, hr, mu, idf⟩ ⟨dst, src, seq, kind, par, dat⟩
      have hso := recv_some ⟨id, ft, ad, lb, hr, mu, idf⟩ ⟨dst, src, seq, kind, par, dat⟩ H1.out H2.out
      have hdf : deafD ⟨id, ft, ad, lb, hr, mu, idf⟩ ⟨dst, src, seq, kind, par, dat⟩ = true → recvD ⟨id, ft, ad, lb, hr, mu, idf⟩ ⟨dst, src, seq, kind, par, dat⟩ = (⟨id, ft, ad, lb, hr, mu, idf⟩, zeroM, false) := fun h => by rw [recvD, if_pos h]
      have hde : deafD ⟨id, ft, ad, lb, hr, mu, idf⟩ ⟨dst, src, seq, kind, par, dat⟩ = false → (dst = id ∨ dst = 281474976710655) := fun h => by
        have h' : ¬ ((dst ≠ id ∧ dst ≠ 281474976710655) ∨ kind = 6 ∨ kind = 7) := by simpa [deafD] using h
        omega
      obtain ⟨x, a, q, hp⟩ : ∃ x a q, recvD ⟨id, ft, ad, lb, hr, mu, idf⟩ ⟨dst, src, seq, kind, par, dat⟩ = (x, a, q) := ⟨_, _, _, rfl⟩
      have c3 := receive_any id ft ad hr dst src seq kind par lb dat mu idf
      rw [receiveD_ok H1.out H2.out hp] at c3
      rw [hp] at hx hno hso hdf
      simp only at hx hno hso hdf
      have C3 := Lib.hid c3
      have HX := Lib.hid hx
      clear c3 hx hp
      obtain ⟨t1, ht1⟩ : ∃ t, (dst == id) = t := ⟨_, rfl⟩
      obtain ⟨t2, ht2⟩ : ∃ t, (dst == 281474976710655) = t := ⟨_, rfl⟩
      obtain ⟨t3, ht3⟩ : ∃ t, (kind != 1) = t := ⟨_, rfl⟩
      cases q
      · have he := hno rfl
        subst he
        by_cases hdd : deafD ⟨id, ft, ad, lb, hr, mu, idf⟩ ⟨dst, src, seq, kind, par, dat⟩ = true
        · have hxx := hdf hdd
          simp only [Prod.mk.injEq, and_true] at hxx
          subst hxx
          clear hso hno hdf hde hdd
          cases t1 <;> cases t2
          all_goals
            go_enter Try.func7, Try.ntmps7
            go_wp2_with fail
            refine (refdchk_is 0 _ _ _ _ _ _ _ _ H1 hl).mono ?_
            rintro e w1 ⟨rfl, hb⟩
            have hz4 := hb.size
            (try simp at hz4)
            have k4_0 : RowAt w1 w.heap.size 24 #[.int .u64 id, .int .i64 ft, .int .i64 ad, .string lb, .int .i64 hr, .bool mu, .bool idf] := (by (repeat' (first | (with_reducible assumption) | (with_reducible refine RowAt.drewN ?_ _) | (with_reducible refine RowAt.drew ?_) | (with_reducible apply RowAt.six) | (with_reducible apply RowAt.seven) | ((with_reducible refine RowAt.mk ?_ ?_); (focus (first | rfl | (simp; done))); rfl) | (with_reducible refine RowAt.alloc ?_ _) | (with_reducible refine RowAt.far ?_ ?_) | (with_reducible refine RowAt.run ?_ (by assumption)) | (with_reducible refine RowAt.below ?_ (by assumption) ?_) | (with_reducible refine RowAt.upd ?_ (by assumption) ?_) | (show _ < _; first | omega | (simp; done) | (simp; omega)) | (show ¬ _ = _; first | omega | (simp; done) | (simp; omega)) | exact rfl))); obtain ⟨k4_0a, k4_0b, k4_0c, k4_0d, k4_0e, k4_0f⟩ := row_facts k4_0
            have k4_1 : RowAt w1 (w.heap.size + 1) 26 #[.int .u64 dst, .int .u64 src, .int .i64 seq, .int .i64 kind, .int .i64 par, .string dat] := (by (repeat' (first | (with_reducible assumption) | (with_reducible refine RowAt.drewN ?_ _) | (with_reducible refine RowAt.drew ?_) | (with_reducible apply RowAt.six) | (with_reducible apply RowAt.seven) | ((with_reducible refine RowAt.mk ?_ ?_); (focus (first | rfl | (simp; done))); rfl) | (with_reducible refine RowAt.alloc ?_ _) | (with_reducible refine RowAt.far ?_ ?_) | (with_reducible refine RowAt.run ?_ (by assumption)) | (with_reducible refine RowAt.below ?_ (by assumption) ?_) | (with_reducible refine RowAt.upd ?_ (by assumption) ?_) | (show _ < _; first | omega | (simp; done) | (simp; omega)) | (show ¬ _ = _; first | omega | (simp; done) | (simp; omega)) | exact rfl))); obtain ⟨k4_1a, k4_1b, k4_1c, k4_1d, k4_1e, k4_1f⟩ := row_facts k4_1
            go_wp2_with fail
            refine (fewmsg_is true _ _ _ _ _ _ _ H3).mono ?_
            rintro e w2 ⟨rfl, hb⟩
            have hz5 := hb.size
            (try simp at hz5)
            have k5_0 : RowAt w2 w.heap.size 24 #[.int .u64 id, .int .i64 ft, .int .i64 ad, .string lb, .int .i64 hr, .bool mu, .bool idf] := (by (repeat' (first | (with_reducible assumption) | (with_reducible refine RowAt.drewN ?_ _) | (with_reducible refine RowAt.drew ?_) | (with_reducible apply RowAt.six) | (with_reducible apply RowAt.seven) | ((with_reducible refine RowAt.mk ?_ ?_); (focus (first | rfl | (simp; done))); rfl) | (with_reducible refine RowAt.alloc ?_ _) | (with_reducible refine RowAt.far ?_ ?_) | (with_reducible refine RowAt.run ?_ (by assumption)) | (with_reducible refine RowAt.below ?_ (by assumption) ?_) | (with_reducible refine RowAt.upd ?_ (by assumption) ?_) | (show _ < _; first | omega | (simp; done) | (simp; omega)) | (show ¬ _ = _; first | omega | (simp; done) | (simp; omega)) | exact rfl))); obtain ⟨k5_0a, k5_0b, k5_0c, k5_0d, k5_0e, k5_0f⟩ := row_facts k5_0
            have k5_1 : RowAt w2 (w.heap.size + 1) 26 #[.int .u64 dst, .int .u64 src, .int .i64 seq, .int .i64 kind, .int .i64 par, .string dat] := (by (repeat' (first | (with_reducible assumption) | (with_reducible refine RowAt.drewN ?_ _) | (with_reducible refine RowAt.drew ?_) | (with_reducible apply RowAt.six) | (with_reducible apply RowAt.seven) | ((with_reducible refine RowAt.mk ?_ ?_); (focus (first | rfl | (simp; done))); rfl) | (with_reducible refine RowAt.alloc ?_ _) | (with_reducible refine RowAt.far ?_ ?_) | (with_reducible refine RowAt.run ?_ (by assumption)) | (with_reducible refine RowAt.below ?_ (by assumption) ?_) | (with_reducible refine RowAt.upd ?_ (by assumption) ?_) | (show _ < _; first | omega | (simp; done) | (simp; omega)) | (show ¬ _ = _; first | omega | (simp; done) | (simp; omega)) | exact rfl))); obtain ⟨k5_1a, k5_1b, k5_1c, k5_1d, k5_1e, k5_1f⟩ := row_facts k5_1
            go_wp2_with fail
            refine (refchk_is 0 _ _ _ _ _ _ _ H2).mono ?_
            rintro e w3 ⟨rfl, hb⟩
            have hz6 := hb.size
            (try simp at hz6)
            have k6_0 : RowAt w3 w.heap.size 24 #[.int .u64 id, .int .i64 ft, .int .i64 ad, .string lb, .int .i64 hr, .bool mu, .bool idf] := (by (repeat' (first | (with_reducible assumption) | (with_reducible refine RowAt.drewN ?_ _) | (with_reducible refine RowAt.drew ?_) | (with_reducible apply RowAt.six) | (with_reducible apply RowAt.seven) | ((with_reducible refine RowAt.mk ?_ ?_); (focus (first | rfl | (simp; done))); rfl) | (with_reducible refine RowAt.alloc ?_ _) | (with_reducible refine RowAt.far ?_ ?_) | (with_reducible refine RowAt.run ?_ (by assumption)) | (with_reducible refine RowAt.below ?_ (by assumption) ?_) | (with_reducible refine RowAt.upd ?_ (by assumption) ?_) | (show _ < _; first | omega | (simp; done) | (simp; omega)) | (show ¬ _ = _; first | omega | (simp; done) | (simp; omega)) | exact rfl))); obtain ⟨k6_0a, k6_0b, k6_0c, k6_0d, k6_0e, k6_0f⟩ := row_facts k6_0
            have k6_1 : RowAt w3 (w.heap.size + 1) 26 #[.int .u64 dst, .int .u64 src, .int .i64 seq, .int .i64 kind, .int .i64 par, .string dat] := (by (repeat' (first | (with_reducible assumption) | (with_reducible refine RowAt.drewN ?_ _) | (with_reducible refine RowAt.drew ?_) | (with_reducible apply RowAt.six) | (with_reducible apply RowAt.seven) | ((with_reducible refine RowAt.mk ?_ ?_); (focus (first | rfl | (simp; done))); rfl) | (with_reducible refine RowAt.alloc ?_ _) | (with_reducible refine RowAt.far ?_ ?_) | (with_reducible refine RowAt.run ?_ (by assumption)) | (with_reducible refine RowAt.below ?_ (by assumption) ?_) | (with_reducible refine RowAt.upd ?_ (by assumption) ?_) | (show _ < _; first | omega | (simp; done) | (simp; omega)) | (show ¬ _ = _; first | omega | (simp; done) | (simp; omega)) | exact rfl))); obtain ⟨k6_1a, k6_1b, k6_1c, k6_1d, k6_1e, k6_1f⟩ := row_facts k6_1
            go_wp2_with fail
            refine (C3.out _).mono ?_
            rintro e w4 ⟨rfl, hb⟩
            have hz7 := hb.size
            (try simp at hz7)
            have k7_0 : RowAt w4 w.heap.size 24 #[.int .u64 id, .int .i64 ft, .int .i64 ad, .string lb, .int .i64 hr, .bool mu, .bool idf] := (by (repeat' (first | (with_reducible assumption) | (with_reducible refine RowAt.drewN ?_ _) | (with_reducible refine RowAt.drew ?_) | (with_reducible apply RowAt.six) | (with_reducible apply RowAt.seven) | ((with_reducible refine RowAt.mk ?_ ?_); (focus (first | rfl | (simp; done))); rfl) | (with_reducible refine RowAt.alloc ?_ _) | (with_reducible refine RowAt.far ?_ ?_) | (with_reducible refine RowAt.run ?_ (by assumption)) | (with_reducible refine RowAt.below ?_ (by assumption) ?_) | (with_reducible refine RowAt.upd ?_ (by assumption) ?_) | (show _ < _; first | omega | (simp; done) | (simp; omega)) | (show ¬ _ = _; first | omega | (simp; done) | (simp; omega)) | exact rfl))); obtain ⟨k7_0a, k7_0b, k7_0c, k7_0d, k7_0e, k7_0f⟩ := row_facts k7_0
            have k7_1 : RowAt w4 (w.heap.size + 1) 26 #[.int .u64 dst, .int .u64 src, .int .i64 seq, .int .i64 kind, .int .i64 par, .string dat] := (by (repeat' (first | (with_reducible assumption) | (with_reducible refine RowAt.drewN ?_ _) | (with_reducible refine RowAt.drew ?_) | (with_reducible apply RowAt.six) | (with_reducible apply RowAt.seven) | ((with_reducible refine RowAt.mk ?_ ?_); (focus (first | rfl | (simp; done))); rfl) | (with_reducible refine RowAt.alloc ?_ _) | (with_reducible refine RowAt.far ?_ ?_) | (with_reducible refine RowAt.run ?_ (by assumption)) | (with_reducible refine RowAt.below ?_ (by assumption) ?_) | (with_reducible refine RowAt.upd ?_ (by assumption) ?_) | (show _ < _; first | omega | (simp; done) | (simp; omega)) | (show ¬ _ = _; first | omega | (simp; done) | (simp; omega)) | exact rfl))); obtain ⟨k7_1a, k7_1b, k7_1c, k7_1d, k7_1e, k7_1f⟩ := row_facts k7_1
            go_wp2_with fail
            refine (dchk_is 0 _ _ _ _ _ _ _ _ HX).mono ?_
            rintro e w5 ⟨rfl, hb⟩
            have hz8 := hb.size
            (try simp at hz8)
            have k8_0 : RowAt w5 w.heap.size 24 #[.int .u64 id, .int .i64 ft, .int .i64 ad, .string lb, .int .i64 hr, .bool mu, .bool idf] := (by (repeat' (first | (with_reducible assumption) | (with_reducible refine RowAt.drewN ?_ _) | (with_reducible refine RowAt.drew ?_) | (with_reducible apply RowAt.six) | (with_reducible apply RowAt.seven) | ((with_reducible refine RowAt.mk ?_ ?_); (focus (first | rfl | (simp; done))); rfl) | (with_reducible refine RowAt.alloc ?_ _) | (with_reducible refine RowAt.far ?_ ?_) | (with_reducible refine RowAt.run ?_ (by assumption)) | (with_reducible refine RowAt.below ?_ (by assumption) ?_) | (with_reducible refine RowAt.upd ?_ (by assumption) ?_) | (show _ < _; first | omega | (simp; done) | (simp; omega)) | (show ¬ _ = _; first | omega | (simp; done) | (simp; omega)) | exact rfl))); obtain ⟨k8_0a, k8_0b, k8_0c, k8_0d, k8_0e, k8_0f⟩ := row_facts k8_0
            have k8_1 : RowAt w5 (w.heap.size + 1) 26 #[.int .u64 dst, .int .u64 src, .int .i64 seq, .int .i64 kind, .int .i64 par, .string dat] := (by (repeat' (first | (with_reducible assumption) | (with_reducible refine RowAt.drewN ?_ _) | (with_reducible refine RowAt.drew ?_) | (with_reducible apply RowAt.six) | (with_reducible apply RowAt.seven) | ((with_reducible refine RowAt.mk ?_ ?_); (focus (first | rfl | (simp; done))); rfl) | (with_reducible refine RowAt.alloc ?_ _) | (with_reducible refine RowAt.far ?_ ?_) | (with_reducible refine RowAt.run ?_ (by assumption)) | (with_reducible refine RowAt.below ?_ (by assumption) ?_) | (with_reducible refine RowAt.upd ?_ (by assumption) ?_) | (show _ < _; first | omega | (simp; done) | (simp; omega)) | (show ¬ _ = _; first | omega | (simp; done) | (simp; omega)) | exact rfl))); obtain ⟨k8_1a, k8_1b, k8_1c, k8_1d, k8_1e, k8_1f⟩ := row_facts k8_1
            have k8_2 : RowAt w5 w4.heap.size 24 #[.int .u64 id, .int .i64 ft, .int .i64 ad, .string lb, .int .i64 hr, .bool mu, .bool idf] := (by (repeat' (first | (with_reducible assumption) | (with_reducible refine RowAt.drewN ?_ _) | (with_reducible refine RowAt.drew ?_) | (with_reducible apply RowAt.six) | (with_reducible apply RowAt.seven) | ((with_reducible refine RowAt.mk ?_ ?_); (focus (first | rfl | (simp; done))); rfl) | (with_reducible refine RowAt.alloc ?_ _) | (with_reducible refine RowAt.far ?_ ?_) | (with_reducible refine RowAt.run ?_ (by assumption)) | (with_reducible refine RowAt.below ?_ (by assumption) ?_) | (with_reducible refine RowAt.upd ?_ (by assumption) ?_) | (show _ < _; first | omega | (simp; done) | (simp; omega)) | (show ¬ _ = _; first | omega | (simp; done) | (simp; omega)) | exact rfl))); obtain ⟨k8_2a, k8_2b, k8_2c, k8_2d, k8_2e, k8_2f⟩ := row_facts k8_2
            have k8_3 : RowAt w5 (w4.heap.size + 1) 26 #[.int .u64 0, .int .u64 0, .int .i64 0, .int .i64 0, .int .i64 0, .string ⟨#[]⟩] := (by (repeat' (first | (with_reducible assumption) | (with_reducible refine RowAt.drewN ?_ _) | (with_reducible refine RowAt.drew ?_) | (with_reducible apply RowAt.six) | (with_reducible apply RowAt.seven) | ((with_reducible refine RowAt.mk ?_ ?_); (focus (first | rfl | (simp; done))); rfl) | (with_reducible refine RowAt.alloc ?_ _) | (with_reducible refine RowAt.far ?_ ?_) | (with_reducible refine RowAt.run ?_ (by assumption)) | (with_reducible refine RowAt.below ?_ (by assumption) ?_) | (with_reducible refine RowAt.upd ?_ (by assumption) ?_) | (show _ < _; first | omega | (simp; done) | (simp; omega)) | (show ¬ _ = _; first | omega | (simp; done) | (simp; omega)) | exact rfl))); obtain ⟨k8_3a, k8_3b, k8_3c, k8_3d, k8_3e, k8_3f⟩ := row_facts k8_3
            go_wp2_with fail
            refine (awake_any _).mono ?_
            rintro e w6 ⟨rfl, hb⟩
            have hz9 := hb.size
            (try simp at hz9)
            go_wp2
            go_ret
            exact ⟨rfl, by (repeat' (first | (with_reducible exact Below.refl _ _) | (with_reducible assumption) | (with_reducible refine below_run ?_ (by assumption)) | (with_reducible refine below_of_upd ?_ (by assumption) ?_) | (with_reducible refine below_drewN ?_ _) | (with_reducible refine Below.drew ?_) | (with_reducible refine below_seven ?_ ?_) | (with_reducible refine below_six ?_ ?_) | (with_reducible refine below_one ?_ ?_) | (with_reducible refine Below.alloc ?_ ?_ _) | (with_reducible refine below_after ?_ ?_ (by assumption)) | (show _ ≤ _; first | omega | (simp; done) | (simp; omega))))⟩
        · have hto := hde (by simpa using hdd)
          have htt : t1 = true ∨ t2 = true := by rw [← ht1, ← ht2]; simpa using hto
          clear hso hno hdf hde hdd hto
          cases t1 <;> cases t2 <;> first | (exfalso; simp at htt; done) | skip
          all_goals (clear htt; skip)
          all_goals
            go_enter Try.func7, Try.ntmps7
            go_wp2_with fail
            refine (refdchk_is 0 _ _ _ _ _ _ _ _ H1 hl).mono ?_
            rintro e w1 ⟨rfl, hb⟩
            have hz10 := hb.size
            (try simp at hz10)
            have k10_0 : RowAt w1 w.heap.size 24 #[.int .u64 id, .int .i64 ft, .int .i64 ad, .string lb, .int .i64 hr, .bool mu, .bool idf] := (by (repeat' (first | (with_reducible assumption) | (with_reducible refine RowAt.drewN ?_ _) | (with_reducible refine RowAt.drew ?_) | (with_reducible apply RowAt.six) | (with_reducible apply RowAt.seven) | ((with_reducible refine RowAt.mk ?_ ?_); (focus (first | rfl | (simp; done))); rfl) | (with_reducible refine RowAt.alloc ?_ _) | (with_reducible refine RowAt.far ?_ ?_) | (with_reducible refine RowAt.run ?_ (by assumption)) | (with_reducible refine RowAt.below ?_ (by assumption) ?_) | (with_reducible refine RowAt.upd ?_ (by assumption) ?_) | (show _ < _; first | omega | (simp; done) | (simp; omega)) | (show ¬ _ = _; first | omega | (simp; done) | (simp; omega)) | exact rfl))); obtain ⟨k10_0a, k10_0b, k10_0c, k10_0d, k10_0e, k10_0f⟩ := row_facts k10_0
            have k10_1 : RowAt w1 (w.heap.size + 1) 26 #[.int .u64 dst, .int .u64 src, .int .i64 seq, .int .i64 kind, .int .i64 par, .string dat] := (by (repeat' (first | (with_reducible assumption) | (with_reducible refine RowAt.drewN ?_ _) | (with_reducible refine RowAt.drew ?_) | (with_reducible apply RowAt.six) | (with_reducible apply RowAt.seven) | ((with_reducible refine RowAt.mk ?_ ?_); (focus (first | rfl | (simp; done))); rfl) | (with_reducible refine RowAt.alloc ?_ _) | (with_reducible refine RowAt.far ?_ ?_) | (with_reducible refine RowAt.run ?_ (by assumption)) | (with_reducible refine RowAt.below ?_ (by assumption) ?_) | (with_reducible refine RowAt.upd ?_ (by assumption) ?_) | (show _ < _; first | omega | (simp; done) | (simp; omega)) | (show ¬ _ = _; first | omega | (simp; done) | (simp; omega)) | exact rfl))); obtain ⟨k10_1a, k10_1b, k10_1c, k10_1d, k10_1e, k10_1f⟩ := row_facts k10_1
            go_wp2_with fail
            refine (fewmsg_is true _ _ _ _ _ _ _ H3).mono ?_
            rintro e w2 ⟨rfl, hb⟩
            have hz11 := hb.size
            (try simp at hz11)
            have k11_0 : RowAt w2 w.heap.size 24 #[.int .u64 id, .int .i64 ft, .int .i64 ad, .string lb, .int .i64 hr, .bool mu, .bool idf] := (by (repeat' (first | (with_reducible assumption) | (with_reducible refine RowAt.drewN ?_ _) | (with_reducible refine RowAt.drew ?_) | (with_reducible apply RowAt.six) | (with_reducible apply RowAt.seven) | ((with_reducible refine RowAt.mk ?_ ?_); (focus (first | rfl | (simp; done))); rfl) | (with_reducible refine RowAt.alloc ?_ _) | (with_reducible refine RowAt.far ?_ ?_) | (with_reducible refine RowAt.run ?_ (by assumption)) | (with_reducible refine RowAt.below ?_ (by assumption) ?_) | (with_reducible refine RowAt.upd ?_ (by assumption) ?_) | (show _ < _; first | omega | (simp; done) | (simp; omega)) | (show ¬ _ = _; first | omega | (simp; done) | (simp; omega)) | exact rfl))); obtain ⟨k11_0a, k11_0b, k11_0c, k11_0d, k11_0e, k11_0f⟩ := row_facts k11_0
            have k11_1 : RowAt w2 (w.heap.size + 1) 26 #[.int .u64 dst, .int .u64 src, .int .i64 seq, .int .i64 kind, .int .i64 par, .string dat] := (by (repeat' (first | (with_reducible assumption) | (with_reducible refine RowAt.drewN ?_ _) | (with_reducible refine RowAt.drew ?_) | (with_reducible apply RowAt.six) | (with_reducible apply RowAt.seven) | ((with_reducible refine RowAt.mk ?_ ?_); (focus (first | rfl | (simp; done))); rfl) | (with_reducible refine RowAt.alloc ?_ _) | (with_reducible refine RowAt.far ?_ ?_) | (with_reducible refine RowAt.run ?_ (by assumption)) | (with_reducible refine RowAt.below ?_ (by assumption) ?_) | (with_reducible refine RowAt.upd ?_ (by assumption) ?_) | (show _ < _; first | omega | (simp; done) | (simp; omega)) | (show ¬ _ = _; first | omega | (simp; done) | (simp; omega)) | exact rfl))); obtain ⟨k11_1a, k11_1b, k11_1c, k11_1d, k11_1e, k11_1f⟩ := row_facts k11_1
            go_wp2_with fail
            refine (refchk_is 0 _ _ _ _ _ _ _ H2).mono ?_
            rintro e w3 ⟨rfl, hb⟩
            have hz12 := hb.size
            (try simp at hz12)
            have k12_0 : RowAt w3 w.heap.size 24 #[.int .u64 id, .int .i64 ft, .int .i64 ad, .string lb, .int .i64 hr, .bool mu, .bool idf] := (by (repeat' (first | (with_reducible assumption) | (with_reducible refine RowAt.drewN ?_ _) | (with_reducible refine RowAt.drew ?_) | (with_reducible apply RowAt.six) | (with_reducible apply RowAt.seven) | ((with_reducible refine RowAt.mk ?_ ?_); (focus (first | rfl | (simp; done))); rfl) | (with_reducible refine RowAt.alloc ?_ _) | (with_reducible refine RowAt.far ?_ ?_) | (with_reducible refine RowAt.run ?_ (by assumption)) | (with_reducible refine RowAt.below ?_ (by assumption) ?_) | (with_reducible refine RowAt.upd ?_ (by assumption) ?_) | (show _ < _; first | omega | (simp; done) | (simp; omega)) | (show ¬ _ = _; first | omega | (simp; done) | (simp; omega)) | exact rfl))); obtain ⟨k12_0a, k12_0b, k12_0c, k12_0d, k12_0e, k12_0f⟩ := row_facts k12_0
            have k12_1 : RowAt w3 (w.heap.size + 1) 26 #[.int .u64 dst, .int .u64 src, .int .i64 seq, .int .i64 kind, .int .i64 par, .string dat] := (by (repeat' (first | (with_reducible assumption) | (with_reducible refine RowAt.drewN ?_ _) | (with_reducible refine RowAt.drew ?_) | (with_reducible apply RowAt.six) | (with_reducible apply RowAt.seven) | ((with_reducible refine RowAt.mk ?_ ?_); (focus (first | rfl | (simp; done))); rfl) | (with_reducible refine RowAt.alloc ?_ _) | (with_reducible refine RowAt.far ?_ ?_) | (with_reducible refine RowAt.run ?_ (by assumption)) | (with_reducible refine RowAt.below ?_ (by assumption) ?_) | (with_reducible refine RowAt.upd ?_ (by assumption) ?_) | (show _ < _; first | omega | (simp; done) | (simp; omega)) | (show ¬ _ = _; first | omega | (simp; done) | (simp; omega)) | exact rfl))); obtain ⟨k12_1a, k12_1b, k12_1c, k12_1d, k12_1e, k12_1f⟩ := row_facts k12_1
            go_wp2_with fail
            refine (C3.out _).mono ?_
            rintro e w4 ⟨rfl, hb⟩
            have hz13 := hb.size
            (try simp at hz13)
            have k13_0 : RowAt w4 w.heap.size 24 #[.int .u64 id, .int .i64 ft, .int .i64 ad, .string lb, .int .i64 hr, .bool mu, .bool idf] := (by (repeat' (first | (with_reducible assumption) | (with_reducible refine RowAt.drewN ?_ _) | (with_reducible refine RowAt.drew ?_) | (with_reducible apply RowAt.six) | (with_reducible apply RowAt.seven) | ((with_reducible refine RowAt.mk ?_ ?_); (focus (first | rfl | (simp; done))); rfl) | (with_reducible refine RowAt.alloc ?_ _) | (with_reducible refine RowAt.far ?_ ?_) | (with_reducible refine RowAt.run ?_ (by assumption)) | (with_reducible refine RowAt.below ?_ (by assumption) ?_) | (with_reducible refine RowAt.upd ?_ (by assumption) ?_) | (show _ < _; first | omega | (simp; done) | (simp; omega)) | (show ¬ _ = _; first | omega | (simp; done) | (simp; omega)) | exact rfl))); obtain ⟨k13_0a, k13_0b, k13_0c, k13_0d, k13_0e, k13_0f⟩ := row_facts k13_0
            have k13_1 : RowAt w4 (w.heap.size + 1) 26 #[.int .u64 dst, .int .u64 src, .int .i64 seq, .int .i64 kind, .int .i64 par, .string dat] := (by (repeat' (first | (with_reducible assumption) | (with_reducible refine RowAt.drewN ?_ _) | (with_reducible refine RowAt.drew ?_) | (with_reducible apply RowAt.six) | (with_reducible apply RowAt.seven) | ((with_reducible refine RowAt.mk ?_ ?_); (focus (first | rfl | (simp; done))); rfl) | (with_reducible refine RowAt.alloc ?_ _) | (with_reducible refine RowAt.far ?_ ?_) | (with_reducible refine RowAt.run ?_ (by assumption)) | (with_reducible refine RowAt.below ?_ (by assumption) ?_) | (with_reducible refine RowAt.upd ?_ (by assumption) ?_) | (show _ < _; first | omega | (simp; done) | (simp; omega)) | (show ¬ _ = _; first | omega | (simp; done) | (simp; omega)) | exact rfl))); obtain ⟨k13_1a, k13_1b, k13_1c, k13_1d, k13_1e, k13_1f⟩ := row_facts k13_1
            go_wp2_with fail
            refine (dchk_is 0 _ _ _ _ _ _ _ _ HX).mono ?_
            rintro e w5 ⟨rfl, hb⟩
            have hz14 := hb.size
            (try simp at hz14)
            have k14_0 : RowAt w5 w.heap.size 24 #[.int .u64 id, .int .i64 ft, .int .i64 ad, .string lb, .int .i64 hr, .bool mu, .bool idf] := (by (repeat' (first | (with_reducible assumption) | (with_reducible refine RowAt.drewN ?_ _) | (with_reducible refine RowAt.drew ?_) | (with_reducible apply RowAt.six) | (with_reducible apply RowAt.seven) | ((with_reducible refine RowAt.mk ?_ ?_); (focus (first | rfl | (simp; done))); rfl) | (with_reducible refine RowAt.alloc ?_ _) | (with_reducible refine RowAt.far ?_ ?_) | (with_reducible refine RowAt.run ?_ (by assumption)) | (with_reducible refine RowAt.below ?_ (by assumption) ?_) | (with_reducible refine RowAt.upd ?_ (by assumption) ?_) | (show _ < _; first | omega | (simp; done) | (simp; omega)) | (show ¬ _ = _; first | omega | (simp; done) | (simp; omega)) | exact rfl))); obtain ⟨k14_0a, k14_0b, k14_0c, k14_0d, k14_0e, k14_0f⟩ := row_facts k14_0
            have k14_1 : RowAt w5 (w.heap.size + 1) 26 #[.int .u64 dst, .int .u64 src, .int .i64 seq, .int .i64 kind, .int .i64 par, .string dat] := (by (repeat' (first | (with_reducible assumption) | (with_reducible refine RowAt.drewN ?_ _) | (with_reducible refine RowAt.drew ?_) | (with_reducible apply RowAt.six) | (with_reducible apply RowAt.seven) | ((with_reducible refine RowAt.mk ?_ ?_); (focus (first | rfl | (simp; done))); rfl) | (with_reducible refine RowAt.alloc ?_ _) | (with_reducible refine RowAt.far ?_ ?_) | (with_reducible refine RowAt.run ?_ (by assumption)) | (with_reducible refine RowAt.below ?_ (by assumption) ?_) | (with_reducible refine RowAt.upd ?_ (by assumption) ?_) | (show _ < _; first | omega | (simp; done) | (simp; omega)) | (show ¬ _ = _; first | omega | (simp; done) | (simp; omega)) | exact rfl))); obtain ⟨k14_1a, k14_1b, k14_1c, k14_1d, k14_1e, k14_1f⟩ := row_facts k14_1
            have k14_2 : RowAt w5 w4.heap.size 24 #[.int .u64 x.id, .int .i64 x.ft, .int .i64 x.ad, .string x.lb, .int .i64 x.hr, .bool x.mu, .bool x.idf] := (by (repeat' (first | (with_reducible assumption) | (with_reducible refine RowAt.drewN ?_ _) | (with_reducible refine RowAt.drew ?_) | (with_reducible apply RowAt.six) | (with_reducible apply RowAt.seven) | ((with_reducible refine RowAt.mk ?_ ?_); (focus (first | rfl | (simp; done))); rfl) | (with_reducible refine RowAt.alloc ?_ _) | (with_reducible refine RowAt.far ?_ ?_) | (with_reducible refine RowAt.run ?_ (by assumption)) | (with_reducible refine RowAt.below ?_ (by assumption) ?_) | (with_reducible refine RowAt.upd ?_ (by assumption) ?_) | (show _ < _; first | omega | (simp; done) | (simp; omega)) | (show ¬ _ = _; first | omega | (simp; done) | (simp; omega)) | exact rfl))); obtain ⟨k14_2a, k14_2b, k14_2c, k14_2d, k14_2e, k14_2f⟩ := row_facts k14_2
            have k14_3 : RowAt w5 (w4.heap.size + 1) 26 #[.int .u64 0, .int .u64 0, .int .i64 0, .int .i64 0, .int .i64 0, .string ⟨#[]⟩] := (by (repeat' (first | (with_reducible assumption) | (with_reducible refine RowAt.drewN ?_ _) | (with_reducible refine RowAt.drew ?_) | (with_reducible apply RowAt.six) | (with_reducible apply RowAt.seven) | ((with_reducible refine RowAt.mk ?_ ?_); (focus (first | rfl | (simp; done))); rfl) | (with_reducible refine RowAt.alloc ?_ _) | (with_reducible refine RowAt.far ?_ ?_) | (with_reducible refine RowAt.run ?_ (by assumption)) | (with_reducible refine RowAt.below ?_ (by assumption) ?_) | (with_reducible refine RowAt.upd ?_ (by assumption) ?_) | (show _ < _; first | omega | (simp; done) | (simp; omega)) | (show ¬ _ = _; first | omega | (simp; done) | (simp; omega)) | exact rfl))); obtain ⟨k14_3a, k14_3b, k14_3c, k14_3d, k14_3e, k14_3f⟩ := row_facts k14_3
            go_wp2_with fail
            refine (awake_any _).mono ?_
            rintro e w6 ⟨rfl, hb⟩
            have hz15 := hb.size
            (try simp at hz15)
            go_wp2
            go_ret
            exact ⟨rfl, by (repeat' (first | (with_reducible exact Below.refl _ _) | (with_reducible assumption) | (with_reducible refine below_run ?_ (by assumption)) | (with_reducible refine below_of_upd ?_ (by assumption) ?_) | (with_reducible refine below_drewN ?_ _) | (with_reducible refine Below.drew ?_) | (with_reducible refine below_seven ?_ ?_) | (with_reducible refine below_six ?_ ?_) | (with_reducible refine below_one ?_ ?_) | (with_reducible refine Below.alloc ?_ ?_ _) | (with_reducible refine below_after ?_ ?_ (by assumption)) | (show _ ≤ _; first | omega | (simp; done) | (simp; omega))))⟩
      · obtain ⟨g1, g2, g3, g4, g5⟩ := hso rfl
        have hto := hde g1
        have htt : t1 = true ∨ t2 = true := by rw [← ht1, ← ht2]; simpa using hto
        have ht23 : t2 = true → t3 = false := by
          rw [← ht2, ← ht3]
          intro h
          have := g2 (by simpa using h)
          simpa using this
        have HA := Lib.hid g3
        have HMM := Lib.hid g5
        obtain ⟨ad1, as1, aq1, ak1, ap1, aa1⟩ := a
        have g4' : id = as1 := g4.symm
        subst g4'
        clear hno hdf hde hto hso g1 g2 g3 g4 g5
        have ht4 : t2 = false ∨ (t2 = true ∧ t3 = false) := by
          cases t2
          · exact .inl rfl
          · exact .inr ⟨rfl, ht23 rfl⟩
        have ht5 : (t1 = true ∧ t2 = false) ∨ (t2 = true ∧ t3 = false) := by
          rcases htt with h | h
          · rcases ht4 with h4 | h4
            · exact .inl ⟨h, h4⟩
            · exact .inr h4
          · exact .inr ⟨h, ht23 h⟩
        clear ht4 htt ht23
        cases t1 <;> cases t2 <;> cases t3 <;> first | (exfalso; simp at ht5; done) | skip
        all_goals (clear ht5; skip)
        all_goals
          go_enter Try.func7, Try.ntmps7
          go_wp2_with fail
          refine (refdchk_is 0 _ _ _ _ _ _ _ _ H1 hl).mono ?_
          rintro e w1 ⟨rfl, hb⟩
          have hz16 := hb.size
          (try simp at hz16)
          have k16_0 : RowAt w1 w.heap.size 24 #[.int .u64 id, .int .i64 ft, .int .i64 ad, .string lb, .int .i64 hr, .bool mu, .bool idf] := (by (repeat' (first | (with_reducible assumption) | (with_reducible refine RowAt.drewN ?_ _) | (with_reducible refine RowAt.drew ?_) | (with_reducible apply RowAt.six) | (with_reducible apply RowAt.seven) | ((with_reducible refine RowAt.mk ?_ ?_); (focus (first | rfl | (simp; done))); rfl) | (with_reducible refine RowAt.alloc ?_ _) | (with_reducible refine RowAt.far ?_ ?_) | (with_reducible refine RowAt.run ?_ (by assumption)) | (with_reducible refine RowAt.below ?_ (by assumption) ?_) | (with_reducible refine RowAt.upd ?_ (by assumption) ?_) | (show _ < _; first | omega | (simp; done) | (simp; omega)) | (show ¬ _ = _; first | omega | (simp; done) | (simp; omega)) | exact rfl))); obtain ⟨k16_0a, k16_0b, k16_0c, k16_0d, k16_0e, k16_0f⟩ := row_facts k16_0
          have k16_1 : RowAt w1 (w.heap.size + 1) 26 #[.int .u64 dst, .int .u64 src, .int .i64 seq, .int .i64 kind, .int .i64 par, .string dat] := (by (repeat' (first | (with_reducible assumption) | (with_reducible refine RowAt.drewN ?_ _) | (with_reducible refine RowAt.drew ?_) | (with_reducible apply RowAt.six) | (with_reducible apply RowAt.seven) | ((with_reducible refine RowAt.mk ?_ ?_); (focus (first | rfl | (simp; done))); rfl) | (with_reducible refine RowAt.alloc ?_ _) | (with_reducible refine RowAt.far ?_ ?_) | (with_reducible refine RowAt.run ?_ (by assumption)) | (with_reducible refine RowAt.below ?_ (by assumption) ?_) | (with_reducible refine RowAt.upd ?_ (by assumption) ?_) | (show _ < _; first | omega | (simp; done) | (simp; omega)) | (show ¬ _ = _; first | omega | (simp; done) | (simp; omega)) | exact rfl))); obtain ⟨k16_1a, k16_1b, k16_1c, k16_1d, k16_1e, k16_1f⟩ := row_facts k16_1
          go_wp2_with fail
          refine (fewmsg_is true _ _ _ _ _ _ _ H3).mono ?_
          rintro e w2 ⟨rfl, hb⟩
          have hz17 := hb.size
          (try simp at hz17)
          have k17_0 : RowAt w2 w.heap.size 24 #[.int .u64 id, .int .i64 ft, .int .i64 ad, .string lb, .int .i64 hr, .bool mu, .bool idf] := (by (repeat' (first | (with_reducible assumption) | (with_reducible refine RowAt.drewN ?_ _) | (with_reducible refine RowAt.drew ?_) | (with_reducible apply RowAt.six) | (with_reducible apply RowAt.seven) | ((with_reducible refine RowAt.mk ?_ ?_); (focus (first | rfl | (simp; done))); rfl) | (with_reducible refine RowAt.alloc ?_ _) | (with_reducible refine RowAt.far ?_ ?_) | (with_reducible refine RowAt.run ?_ (by assumption)) | (with_reducible refine RowAt.below ?_ (by assumption) ?_) | (with_reducible refine RowAt.upd ?_ (by assumption) ?_) | (show _ < _; first | omega | (simp; done) | (simp; omega)) | (show ¬ _ = _; first | omega | (simp; done) | (simp; omega)) | exact rfl))); obtain ⟨k17_0a, k17_0b, k17_0c, k17_0d, k17_0e, k17_0f⟩ := row_facts k17_0
          have k17_1 : RowAt w2 (w.heap.size + 1) 26 #[.int .u64 dst, .int .u64 src, .int .i64 seq, .int .i64 kind, .int .i64 par, .string dat] := (by (repeat' (first | (with_reducible assumption) | (with_reducible refine RowAt.drewN ?_ _) | (with_reducible refine RowAt.drew ?_) | (with_reducible apply RowAt.six) | (with_reducible apply RowAt.seven) | ((with_reducible refine RowAt.mk ?_ ?_); (focus (first | rfl | (simp; done))); rfl) | (with_reducible refine RowAt.alloc ?_ _) | (with_reducible refine RowAt.far ?_ ?_) | (with_reducible refine RowAt.run ?_ (by assumption)) | (with_reducible refine RowAt.below ?_ (by assumption) ?_) | (with_reducible refine RowAt.upd ?_ (by assumption) ?_) | (show _ < _; first | omega | (simp; done) | (simp; omega)) | (show ¬ _ = _; first | omega | (simp; done) | (simp; omega)) | exact rfl))); obtain ⟨k17_1a, k17_1b, k17_1c, k17_1d, k17_1e, k17_1f⟩ := row_facts k17_1
          go_wp2_with fail
          refine (refchk_is 0 _ _ _ _ _ _ _ H2).mono ?_
          rintro e w3 ⟨rfl, hb⟩
          have hz18 := hb.size
          (try simp at hz18)
          have k18_0 : RowAt w3 w.heap.size 24 #[.int .u64 id, .int .i64 ft, .int .i64 ad, .string lb, .int .i64 hr, .bool mu, .bool idf] := (by (repeat' (first | (with_reducible assumption) | (with_reducible refine RowAt.drewN ?_ _) | (with_reducible refine RowAt.drew ?_) | (with_reducible apply RowAt.six) | (with_reducible apply RowAt.seven) | ((with_reducible refine RowAt.mk ?_ ?_); (focus (first | rfl | (simp; done))); rfl) | (with_reducible refine RowAt.alloc ?_ _) | (with_reducible refine RowAt.far ?_ ?_) | (with_reducible refine RowAt.run ?_ (by assumption)) | (with_reducible refine RowAt.below ?_ (by assumption) ?_) | (with_reducible refine RowAt.upd ?_ (by assumption) ?_) | (show _ < _; first | omega | (simp; done) | (simp; omega)) | (show ¬ _ = _; first | omega | (simp; done) | (simp; omega)) | exact rfl))); obtain ⟨k18_0a, k18_0b, k18_0c, k18_0d, k18_0e, k18_0f⟩ := row_facts k18_0
          have k18_1 : RowAt w3 (w.heap.size + 1) 26 #[.int .u64 dst, .int .u64 src, .int .i64 seq, .int .i64 kind, .int .i64 par, .string dat] := (by (repeat' (first | (with_reducible assumption) | (with_reducible refine RowAt.drewN ?_ _) | (with_reducible refine RowAt.drew ?_) | (with_reducible apply RowAt.six) | (with_reducible apply RowAt.seven) | ((with_reducible refine RowAt.mk ?_ ?_); (focus (first | rfl | (simp; done))); rfl) | (with_reducible refine RowAt.alloc ?_ _) | (with_reducible refine RowAt.far ?_ ?_) | (with_reducible refine RowAt.run ?_ (by assumption)) | (with_reducible refine RowAt.below ?_ (by assumption) ?_) | (with_reducible refine RowAt.upd ?_ (by assumption) ?_) | (show _ < _; first | omega | (simp; done) | (simp; omega)) | (show ¬ _ = _; first | omega | (simp; done) | (simp; omega)) | exact rfl))); obtain ⟨k18_1a, k18_1b, k18_1c, k18_1d, k18_1e, k18_1f⟩ := row_facts k18_1
          go_wp2_with fail
          refine (C3.out _).mono ?_
          rintro e w4 ⟨rfl, hb⟩
          have hz19 := hb.size
          (try simp at hz19)
          have k19_0 : RowAt w4 w.heap.size 24 #[.int .u64 id, .int .i64 ft, .int .i64 ad, .string lb, .int .i64 hr, .bool mu, .bool idf] := (by (repeat' (first | (with_reducible assumption) | (with_reducible refine RowAt.drewN ?_ _) | (with_reducible refine RowAt.drew ?_) | (with_reducible apply RowAt.six) | (with_reducible apply RowAt.seven) | ((with_reducible refine RowAt.mk ?_ ?_); (focus (first | rfl | (simp; done))); rfl) | (with_reducible refine RowAt.alloc ?_ _) | (with_reducible refine RowAt.far ?_ ?_) | (with_reducible refine RowAt.run ?_ (by assumption)) | (with_reducible refine RowAt.below ?_ (by assumption) ?_) | (with_reducible refine RowAt.upd ?_ (by assumption) ?_) | (show _ < _; first | omega | (simp; done) | (simp; omega)) | (show ¬ _ = _; first | omega | (simp; done) | (simp; omega)) | exact rfl))); obtain ⟨k19_0a, k19_0b, k19_0c, k19_0d, k19_0e, k19_0f⟩ := row_facts k19_0
          have k19_1 : RowAt w4 (w.heap.size + 1) 26 #[.int .u64 dst, .int .u64 src, .int .i64 seq, .int .i64 kind, .int .i64 par, .string dat] := (by (repeat' (first | (with_reducible assumption) | (with_reducible refine RowAt.drewN ?_ _) | (with_reducible refine RowAt.drew ?_) | (with_reducible apply RowAt.six) | (with_reducible apply RowAt.seven) | ((with_reducible refine RowAt.mk ?_ ?_); (focus (first | rfl | (simp; done))); rfl) | (with_reducible refine RowAt.alloc ?_ _) | (with_reducible refine RowAt.far ?_ ?_) | (with_reducible refine RowAt.run ?_ (by assumption)) | (with_reducible refine RowAt.below ?_ (by assumption) ?_) | (with_reducible refine RowAt.upd ?_ (by assumption) ?_) | (show _ < _; first | omega | (simp; done) | (simp; omega)) | (show ¬ _ = _; first | omega | (simp; done) | (simp; omega)) | exact rfl))); obtain ⟨k19_1a, k19_1b, k19_1c, k19_1d, k19_1e, k19_1f⟩ := row_facts k19_1
          go_wp2_with fail
          refine (dchk_is 0 _ _ _ _ _ _ _ _ HX).mono ?_
          rintro e w5 ⟨rfl, hb⟩
          have hz20 := hb.size
          (try simp at hz20)
          have k20_0 : RowAt w5 w.heap.size 24 #[.int .u64 id, .int .i64 ft, .int .i64 ad, .string lb, .int .i64 hr, .bool mu, .bool idf] := (by (repeat' (first | (with_reducible assumption) | (with_reducible refine RowAt.drewN ?_ _) | (with_reducible refine RowAt.drew ?_) | (with_reducible apply RowAt.six) | (with_reducible apply RowAt.seven) | ((with_reducible refine RowAt.mk ?_ ?_); (focus (first | rfl | (simp; done))); rfl) | (with_reducible refine RowAt.alloc ?_ _) | (with_reducible refine RowAt.far ?_ ?_) | (with_reducible refine RowAt.run ?_ (by assumption)) | (with_reducible refine RowAt.below ?_ (by assumption) ?_) | (with_reducible refine RowAt.upd ?_ (by assumption) ?_) | (show _ < _; first | omega | (simp; done) | (simp; omega)) | (show ¬ _ = _; first | omega | (simp; done) | (simp; omega)) | exact rfl))); obtain ⟨k20_0a, k20_0b, k20_0c, k20_0d, k20_0e, k20_0f⟩ := row_facts k20_0
          have k20_1 : RowAt w5 (w.heap.size + 1) 26 #[.int .u64 dst, .int .u64 src, .int .i64 seq, .int .i64 kind, .int .i64 par, .string dat] := (by (repeat' (first | (with_reducible assumption) | (with_reducible refine RowAt.drewN ?_ _) | (with_reducible refine RowAt.drew ?_) | (with_reducible apply RowAt.six) | (with_reducible apply RowAt.seven) | ((with_reducible refine RowAt.mk ?_ ?_); (focus (first | rfl | (simp; done))); rfl) | (with_reducible refine RowAt.alloc ?_ _) | (with_reducible refine RowAt.far ?_ ?_) | (with_reducible refine RowAt.run ?_ (by assumption)) | (with_reducible refine RowAt.below ?_ (by assumption) ?_) | (with_reducible refine RowAt.upd ?_ (by assumption) ?_) | (show _ < _; first | omega | (simp; done) | (simp; omega)) | (show ¬ _ = _; first | omega | (simp; done) | (simp; omega)) | exact rfl))); obtain ⟨k20_1a, k20_1b, k20_1c, k20_1d, k20_1e, k20_1f⟩ := row_facts k20_1
          have k20_2 : RowAt w5 w4.heap.size 24 #[.int .u64 x.id, .int .i64 x.ft, .int .i64 x.ad, .string x.lb, .int .i64 x.hr, .bool x.mu, .bool x.idf] := (by (repeat' (first | (with_reducible assumption) | (with_reducible refine RowAt.drewN ?_ _) | (with_reducible refine RowAt.drew ?_) | (with_reducible apply RowAt.six) | (with_reducible apply RowAt.seven) | ((with_reducible refine RowAt.mk ?_ ?_); (focus (first | rfl | (simp; done))); rfl) | (with_reducible refine RowAt.alloc ?_ _) | (with_reducible refine RowAt.far ?_ ?_) | (with_reducible refine RowAt.run ?_ (by assumption)) | (with_reducible refine RowAt.below ?_ (by assumption) ?_) | (with_reducible refine RowAt.upd ?_ (by assumption) ?_) | (show _ < _; first | omega | (simp; done) | (simp; omega)) | (show ¬ _ = _; first | omega | (simp; done) | (simp; omega)) | exact rfl))); obtain ⟨k20_2a, k20_2b, k20_2c, k20_2d, k20_2e, k20_2f⟩ := row_facts k20_2
          have k20_3 : RowAt w5 (w4.heap.size + 1) 26 #[.int .u64 ad1, .int .u64 id, .int .i64 aq1, .int .i64 ak1, .int .i64 ap1, .string aa1] := (by (repeat' (first | (with_reducible assumption) | (with_reducible refine RowAt.drewN ?_ _) | (with_reducible refine RowAt.drew ?_) | (with_reducible apply RowAt.six) | (with_reducible apply RowAt.seven) | ((with_reducible refine RowAt.mk ?_ ?_); (focus (first | rfl | (simp; done))); rfl) | (with_reducible refine RowAt.alloc ?_ _) | (with_reducible refine RowAt.far ?_ ?_) | (with_reducible refine RowAt.run ?_ (by assumption)) | (with_reducible refine RowAt.below ?_ (by assumption) ?_) | (with_reducible refine RowAt.upd ?_ (by assumption) ?_) | (show _ < _; first | omega | (simp; done) | (simp; omega)) | (show ¬ _ = _; first | omega | (simp; done) | (simp; omega)) | exact rfl))); obtain ⟨k20_3a, k20_3b, k20_3c, k20_3d, k20_3e, k20_3f⟩ := row_facts k20_3
          go_wp2_with fail
          refine (chk_is 0 _ _ _ _ _ _ _ HA).mono ?_
          rintro e w6 ⟨rfl, hb⟩
          have hz21 := hb.size
          (try simp at hz21)
          have k21_0 : RowAt w6 w.heap.size 24 #[.int .u64 id, .int .i64 ft, .int .i64 ad, .string lb, .int .i64 hr, .bool mu, .bool idf] := (by (repeat' (first | (with_reducible assumption) | (with_reducible refine RowAt.drewN ?_ _) | (with_reducible refine RowAt.drew ?_) | (with_reducible apply RowAt.six) | (with_reducible apply RowAt.seven) | ((with_reducible refine RowAt.mk ?_ ?_); (focus (first | rfl | (simp; done))); rfl) | (with_reducible refine RowAt.alloc ?_ _) | (with_reducible refine RowAt.far ?_ ?_) | (with_reducible refine RowAt.run ?_ (by assumption)) | (with_reducible refine RowAt.below ?_ (by assumption) ?_) | (with_reducible refine RowAt.upd ?_ (by assumption) ?_) | (show _ < _; first | omega | (simp; done) | (simp; omega)) | (show ¬ _ = _; first | omega | (simp; done) | (simp; omega)) | exact rfl))); obtain ⟨k21_0a, k21_0b, k21_0c, k21_0d, k21_0e, k21_0f⟩ := row_facts k21_0
          have k21_1 : RowAt w6 (w.heap.size + 1) 26 #[.int .u64 dst, .int .u64 src, .int .i64 seq, .int .i64 kind, .int .i64 par, .string dat] := (by (repeat' (first | (with_reducible assumption) | (with_reducible refine RowAt.drewN ?_ _) | (with_reducible refine RowAt.drew ?_) | (with_reducible apply RowAt.six) | (with_reducible apply RowAt.seven) | ((with_reducible refine RowAt.mk ?_ ?_); (focus (first | rfl | (simp; done))); rfl) | (with_reducible refine RowAt.alloc ?_ _) | (with_reducible refine RowAt.far ?_ ?_) | (with_reducible refine RowAt.run ?_ (by assumption)) | (with_reducible refine RowAt.below ?_ (by assumption) ?_) | (with_reducible refine RowAt.upd ?_ (by assumption) ?_) | (show _ < _; first | omega | (simp; done) | (simp; omega)) | (show ¬ _ = _; first | omega | (simp; done) | (simp; omega)) | exact rfl))); obtain ⟨k21_1a, k21_1b, k21_1c, k21_1d, k21_1e, k21_1f⟩ := row_facts k21_1
          have k21_2 : RowAt w6 (w4.heap.size + 1) 26 #[.int .u64 ad1, .int .u64 id, .int .i64 aq1, .int .i64 ak1, .int .i64 ap1, .string aa1] := (by (repeat' (first | (with_reducible assumption) | (with_reducible refine RowAt.drewN ?_ _) | (with_reducible refine RowAt.drew ?_) | (with_reducible apply RowAt.six) | (with_reducible apply RowAt.seven) | ((with_reducible refine RowAt.mk ?_ ?_); (focus (first | rfl | (simp; done))); rfl) | (with_reducible refine RowAt.alloc ?_ _) | (with_reducible refine RowAt.far ?_ ?_) | (with_reducible refine RowAt.run ?_ (by assumption)) | (with_reducible refine RowAt.below ?_ (by assumption) ?_) | (with_reducible refine RowAt.upd ?_ (by assumption) ?_) | (show _ < _; first | omega | (simp; done) | (simp; omega)) | (show ¬ _ = _; first | omega | (simp; done) | (simp; omega)) | exact rfl))); obtain ⟨k21_2a, k21_2b, k21_2c, k21_2d, k21_2e, k21_2f⟩ := row_facts k21_2
          go_wp2_with fail
          refine (matches_is true _ _ _ _ _ _ _ _ _ _ _ _ _ HMM).mono ?_
          rintro e w7 ⟨rfl, hb⟩
          have hz22 := hb.size
          (try simp at hz22)
          go_wp2_with fail
          refine (awake_any _).mono ?_
          rintro e w8 ⟨rfl, hb⟩
          have hz23 := hb.size
          (try simp at hz23)
          go_wp2
          go_ret
          exact ⟨rfl, by (repeat' (first | (with_reducible exact Below.refl _ _) | (with_reducible assumption) | (with_reducible refine below_run ?_ (by assumption)) | (with_reducible refine below_of_upd ?_ (by assumption) ?_) | (with_reducible refine below_drewN ?_ _) | (with_reducible refine Below.drew ?_) | (with_reducible refine below_seven ?_ ?_) | (with_reducible refine below_six ?_ ?_) | (with_reducible refine below_one ?_ ?_) | (with_reducible refine Below.alloc ?_ ?_ _) | (with_reducible refine below_after ?_ ?_ (by assumption)) | (show _ ≤ _; first | omega | (simp; done) | (simp; omega))))⟩
    · have e2 : (n2 != 0) = true := by simpa using z2
      clear z2
      go_enter Try.func7, Try.ntmps7
      go_wp2_with fail
      refine (refdchk_is 0 _ _ _ _ _ _ _ _ H1 hl).mono ?_
      rintro e w1 ⟨rfl, hb⟩
      have hz24 := hb.size
      (try simp at hz24)
      have k24_0 : RowAt w1 w.heap.size 24 #[.int .u64 id, .int .i64 ft, .int .i64 ad, .string lb, .int .i64 hr, .bool mu, .bool idf] := (by (repeat' (first | (with_reducible assumption) | (with_reducible refine RowAt.drewN ?_ _) | (with_reducible refine RowAt.drew ?_) | (with_reducible apply RowAt.six) | (with_reducible apply RowAt.seven) | ((with_reducible refine RowAt.mk ?_ ?_); (focus (first | rfl | (simp; done))); rfl) | (with_reducible refine RowAt.alloc ?_ _) | (with_reducible refine RowAt.far ?_ ?_) | (with_reducible refine RowAt.run ?_ (by assumption)) | (with_reducible refine RowAt.below ?_ (by assumption) ?_) | (with_reducible refine RowAt.upd ?_ (by assumption) ?_) | (show _ < _; first | omega | (simp; done) | (simp; omega)) | (show ¬ _ = _; first | omega | (simp; done) | (simp; omega)) | exact rfl))); obtain ⟨k24_0a, k24_0b, k24_0c, k24_0d, k24_0e, k24_0f⟩ := row_facts k24_0
      have k24_1 : RowAt w1 (w.heap.size + 1) 26 #[.int .u64 dst, .int .u64 src, .int .i64 seq, .int .i64 kind, .int .i64 par, .string dat] := (by (repeat' (first | (with_reducible assumption) | (with_reducible refine RowAt.drewN ?_ _) | (with_reducible refine RowAt.drew ?_) | (with_reducible apply RowAt.six) | (with_reducible apply RowAt.seven) | ((with_reducible refine RowAt.mk ?_ ?_); (focus (first | rfl | (simp; done))); rfl) | (with_reducible refine RowAt.alloc ?_ _) | (with_reducible refine RowAt.far ?_ ?_) | (with_reducible refine RowAt.run ?_ (by assumption)) | (with_reducible refine RowAt.below ?_ (by assumption) ?_) | (with_reducible refine RowAt.upd ?_ (by assumption) ?_) | (show _ < _; first | omega | (simp; done) | (simp; omega)) | (show ¬ _ = _; first | omega | (simp; done) | (simp; omega)) | exact rfl))); obtain ⟨k24_1a, k24_1b, k24_1c, k24_1d, k24_1e, k24_1f⟩ := row_facts k24_1
      go_wp2_with fail
      refine (fewmsg_is true _ _ _ _ _ _ _ H3).mono ?_
      rintro e w2 ⟨rfl, hb⟩
      have hz25 := hb.size
      (try simp at hz25)
      have k25_0 : RowAt w2 w.heap.size 24 #[.int .u64 id, .int .i64 ft, .int .i64 ad, .string lb, .int .i64 hr, .bool mu, .bool idf] := (by (repeat' (first | (with_reducible assumption) | (with_reducible refine RowAt.drewN ?_ _) | (with_reducible refine RowAt.drew ?_) | (with_reducible apply RowAt.six) | (with_reducible apply RowAt.seven) | ((with_reducible refine RowAt.mk ?_ ?_); (focus (first | rfl | (simp; done))); rfl) | (with_reducible refine RowAt.alloc ?_ _) | (with_reducible refine RowAt.far ?_ ?_) | (with_reducible refine RowAt.run ?_ (by assumption)) | (with_reducible refine RowAt.below ?_ (by assumption) ?_) | (with_reducible refine RowAt.upd ?_ (by assumption) ?_) | (show _ < _; first | omega | (simp; done) | (simp; omega)) | (show ¬ _ = _; first | omega | (simp; done) | (simp; omega)) | exact rfl))); obtain ⟨k25_0a, k25_0b, k25_0c, k25_0d, k25_0e, k25_0f⟩ := row_facts k25_0
      have k25_1 : RowAt w2 (w.heap.size + 1) 26 #[.int .u64 dst, .int .u64 src, .int .i64 seq, .int .i64 kind, .int .i64 par, .string dat] := (by (repeat' (first | (with_reducible assumption) | (with_reducible refine RowAt.drewN ?_ _) | (with_reducible refine RowAt.drew ?_) | (with_reducible apply RowAt.six) | (with_reducible apply RowAt.seven) | ((with_reducible refine RowAt.mk ?_ ?_); (focus (first | rfl | (simp; done))); rfl) | (with_reducible refine RowAt.alloc ?_ _) | (with_reducible refine RowAt.far ?_ ?_) | (with_reducible refine RowAt.run ?_ (by assumption)) | (with_reducible refine RowAt.below ?_ (by assumption) ?_) | (with_reducible refine RowAt.upd ?_ (by assumption) ?_) | (show _ < _; first | omega | (simp; done) | (simp; omega)) | (show ¬ _ = _; first | omega | (simp; done) | (simp; omega)) | exact rfl))); obtain ⟨k25_1a, k25_1b, k25_1c, k25_1d, k25_1e, k25_1f⟩ := row_facts k25_1
      go_wp2_with fail
      refine (refchk_is n2 _ _ _ _ _ _ _ H2).mono ?_
      rintro e w3 ⟨rfl, hb⟩
      have hz26 := hb.size
      (try simp at hz26)
      have k26_0 : RowAt w3 w.heap.size 24 #[.int .u64 id, .int .i64 ft, .int .i64 ad, .string lb, .int .i64 hr, .bool mu, .bool idf] := (by (repeat' (first | (with_reducible assumption) | (with_reducible refine RowAt.drewN ?_ _) | (with_reducible refine RowAt.drew ?_) | (with_reducible apply RowAt.six) | (with_reducible apply RowAt.seven) | ((with_reducible refine RowAt.mk ?_ ?_); (focus (first | rfl | (simp; done))); rfl) | (with_reducible refine RowAt.alloc ?_ _) | (with_reducible refine RowAt.far ?_ ?_) | (with_reducible refine RowAt.run ?_ (by assumption)) | (with_reducible refine RowAt.below ?_ (by assumption) ?_) | (with_reducible refine RowAt.upd ?_ (by assumption) ?_) | (show _ < _; first | omega | (simp; done) | (simp; omega)) | (show ¬ _ = _; first | omega | (simp; done) | (simp; omega)) | exact rfl))); obtain ⟨k26_0a, k26_0b, k26_0c, k26_0d, k26_0e, k26_0f⟩ := row_facts k26_0
      have k26_1 : RowAt w3 (w.heap.size + 1) 26 #[.int .u64 dst, .int .u64 src, .int .i64 seq, .int .i64 kind, .int .i64 par, .string dat] := (by (repeat' (first | (with_reducible assumption) | (with_reducible refine RowAt.drewN ?_ _) | (with_reducible refine RowAt.drew ?_) | (with_reducible apply RowAt.six) | (with_reducible apply RowAt.seven) | ((with_reducible refine RowAt.mk ?_ ?_); (focus (first | rfl | (simp; done))); rfl) | (with_reducible refine RowAt.alloc ?_ _) | (with_reducible refine RowAt.far ?_ ?_) | (with_reducible refine RowAt.run ?_ (by assumption)) | (with_reducible refine RowAt.below ?_ (by assumption) ?_) | (with_reducible refine RowAt.upd ?_ (by assumption) ?_) | (show _ < _; first | omega | (simp; done) | (simp; omega)) | (show ¬ _ = _; first | omega | (simp; done) | (simp; omega)) | exact rfl))); obtain ⟨k26_1a, k26_1b, k26_1c, k26_1d, k26_1e, k26_1f⟩ := row_facts k26_1
      go_wp2_with fail
      refine (awake_any _).mono ?_
      rintro e w4 ⟨rfl, hb⟩
      have hz27 := hb.size
      (try simp at hz27)
      go_wp2
      go_ret
      exact ⟨rfl, by (repeat' (first | (with_reducible exact Below.refl _ _) | (with_reducible assumption) | (with_reducible refine below_run ?_ (by assumption)) | (with_reducible refine below_of_upd ?_ (by assumption) ?_) | (with_reducible refine below_drewN ?_ _) | (with_reducible refine Below.drew ?_) | (with_reducible refine below_seven ?_ ?_) | (with_reducible refine below_six ?_ ?_) | (with_reducible refine below_one ?_ ?_) | (with_reducible refine Below.alloc ?_ ?_ _) | (with_reducible refine below_after ?_ ?_ (by assumption)) | (show _ ≤ _; first | omega | (simp; done) | (simp; omega))))⟩
  · have e2 : (n1 != 0) = true := by simpa using z1
    clear z1
    go_enter Try.func7, Try.ntmps7
    go_wp2_with fail
    refine (refdchk_is n1 _ _ _ _ _ _ _ _ H1 hl).mono ?_
    rintro e w1 ⟨rfl, hb⟩
    have hz28 := hb.size
    (try simp at hz28)
    go_wp2_with fail
    refine (awake_any _).mono ?_
    rintro e w2 ⟨rfl, hb⟩
    have hz29 := hb.size
    (try simp at hz29)
    go_wp2
    go_ret
    exact ⟨rfl, by (repeat' (first | (with_reducible exact Below.refl _ _) | (with_reducible assumption) | (with_reducible refine below_run ?_ (by assumption)) | (with_reducible refine below_of_upd ?_ (by assumption) ?_) | (with_reducible refine below_drewN ?_ _) | (with_reducible refine Below.drew ?_) | (with_reducible refine below_seven ?_ ?_) | (with_reducible refine below_six ?_ ?_) | (with_reducible refine below_one ?_ ?_) | (with_reducible refine Below.alloc ?_ ?_ _) | (with_reducible refine below_after ?_ ?_ (by assumption)) | (show _ ≤ _; first | omega | (simp; done) | (simp; omega))))⟩

end Go.Proofs.Ytnckalgljfplhaa
