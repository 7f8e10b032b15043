/-
  The walk of the law DiscoverySearches.
-/
import Derived.Test.YtiemdccjphdbmaaGreatFt
import Derived.Test.YtiemdccjphdbmaaGreatRf
namespace Go.Proofs.YtiemdccjphdbmaaGreat
open Go.RowKit

set_option maxHeartbeats 8000000 in
set_option maxRecDepth 100000 in
theorem law_searches (v : Value) (l : List Dev) (src seq low high : Int) (w : World) (hv : DevsAt w v l) (hr : l.length * 56 ≤ 140737488351232) :
    Calls Tryz.prog 3 #[v, .agg #[.int .u64 src, .int .i64 seq, .int .u64 low, .int .u64 high]] w fun e w' => e = .returned (.bool true) ∧ Below w.heap.size w w' := by
  obtain ⟨q1, h1⟩ : ∃ q, fewD l = q := ⟨_, rfl⟩
  have H1 := Lib.hid h1
  have HV := Lib.hid (hv.alloc (.cells #[.int .u64 src, .int .i64 seq, .int .u64 low, .int .u64 high] 25))
  have R0 := Lib.hid (RowAt.new w 25 #[.int .u64 src, .int .i64 seq, .int .u64 low, .int .u64 high])
  have HB0 := Lib.hid ((Below.refl w.heap.size w).alloc (Nat.le_refl _) (.cells #[.int .u64 src, .int .i64 seq, .int .u64 low, .int .u64 high] 25))
  have hdv := fun v l W (h : DevsAt W v l) hr => devices_any v l W h hr
  have CD := Lib.hid hdv
  clear hv h1 hdv
  go_enter Tryz.func3, Tryz.ntmps3
  go_wp2_with fail
  refine (CD.out _ l _ HV.out hr).mono ?_
  rintro e w1 ⟨v1, rfl, hd1, hb1⟩
  have HD1 := Lib.hid hd1
  have HB1 := Lib.hid (below_run HB0.out hb1)
  have R1 := Lib.hid (R0.out.run hb1)
  have HV1 := Lib.hid (HV.out.run hb1)
  clear hd1 hb1 R0 HB0 HV
  go_wp2_with fail
  refine (few48_is q1 _ l _ HD1.out H1).mono ?_
  rintro e w2 ⟨rfl, hb2⟩
  have HB2 := Lib.hid (below_run HB1.out hb2)
  have hm2 := R1.out.run hb2
  have HV2 := Lib.hid (HV1.out.run hb2)
  obtain ⟨x1, x2, x3, x4, x5, x6⟩ := row_facts hm2
  have R2 := Lib.hid hm2
  clear hb2 hm2 R1 HB1 HV1 HD1
  cases q1 with
  | false =>
    go_wp2_with fail
    refine (awake48_any _).mono ?_
    rintro e w3 ⟨rfl, hb3⟩
    go_wp2
    go_ret
    exact ⟨rfl, below_run HB2.out hb3⟩
  | true =>
  have HSM := Lib.hid (fewD_small H1.out)
  have CS := Lib.hid (search_any v l src seq low high w2 HV2.out)
  have CR := Lib.hid (fun V W (h : DevsAt W V l) => rsearch_any V l src seq low high W h HSM.out.2)
  have HUL := Lib.hid (searchU_length l src seq low high)
  obtain ⟨n, hn⟩ : ∃ n, searchE l src seq low high = n := ⟨_, rfl⟩
  obtain ⟨u, hu⟩ : ∃ u, searchU l src seq low high = u := ⟨_, rfl⟩
  rw [hn, hu] at CS CR
  rw [hu] at HUL
  obtain ⟨N, hN⟩ : ∃ N, IntKind.i64.wrap (u.msgs : Int) = N := ⟨_, rfl⟩
  unfold FindPost at CS CR
  rw [hN] at CS CR
  clear hn hu hN
  go_wp2_with fail
  refine CS.out.mono ?_
  rintro e w3 ⟨v3, vf3, rfl, hd3, hi3, hb3⟩
  have hm3 := R2.out.run hb3
  have hv3 := HV2.out.run hb3
  have hbw := below_run HB2.out hb3
  obtain ⟨fa, fn, fc, rfl⟩ := slice_of hi3
  go_upto_region 4 with fail
  have hbb : Below w3.heap.size w3 (w3.alloc (.cells #[.slice fa fn fc, .int .i64 N] 32)) := (Below.refl _ _).alloc (Nat.le_refl _) _
  have rF : RowAt (w3.alloc (.cells #[.slice fa fn fc, .int .i64 N] 32)) w3.heap.size 32 #[.slice fa fn fc, .int .i64 N] := RowAt.new _ _ _
  have rS := hm3.run hbb
  have kV := hv3.run hbb
  have kD := hd3.run hbb
  have kI := hi3.run hbb
  have kB := below_run hbw hbb
  have hk1 := hbw.size
  have hk2 := lt_of_block hm3
  generalize (w3.alloc (.cells #[.slice fa fn fc, .int .i64 N] 32)) = x at rF rS kV kD kI kB ⊢
  generalize w3.heap.size = k1 at rF hk1 hk2 ⊢
  clear hbb hm3 hv3 hd3 hi3 hb3 hbw x1 x2 x3 x4 x5 x6 R2 HV2 HB2
  obtain ⟨x1, x2, x3, x4, x5, x6⟩ := row_facts rS
  have hkx := lt_of_block rF
  go_cut [8, 9, 10] (fun s8 s9 s10 wx => ∃ (g : Nat) (v2 vf2 : Value), s8 = v2 ∧ s9 = .pointer (some ⟨g, 0, none⟩) ∧ s10 = .int .i64 n ∧ Found2 w wx g k1 v3 (.slice fa fn fc) v2 vf2 N u.devs u.found)
  case first =>
    go_region_held3 (fun w' => w'.cell? ⟨w.heap.size, 0, none⟩ = some (.int .u64 src) ∧ w'.cell? ⟨w.heap.size, 1, none⟩ = some (.int .i64 seq) ∧ w'.cell? ⟨w.heap.size, 2, none⟩ = some (.int .u64 low) ∧ w'.cell? ⟨w.heap.size, 3, none⟩ = some (.int .u64 high)) (go_keep)
      (first
        | (go_at_call 9; refine (CD.out _ l _ (by (repeat' (first | (with_reducible assumption) | (with_reducible refine DevsAt.run ?_ (by assumption)) | (with_reducible refine IdsAt.run ?_ (by assumption)) | (with_reducible refine MsgsAt.run ?_ (by assumption)) | (with_reducible refine DevsAt.alloc ?_ _) | (with_reducible refine IdsAt.alloc ?_ _) | (with_reducible refine DevsAt.drew ?_) | (with_reducible refine IdsAt.drew ?_)))) hr).mono ?_; rintro e w4 ⟨v4, rfl, hd4, hb4⟩; (try (have hn : ¬ w.heap.size = x.heap.size := (by omega); have hn' : ¬ x.heap.size = w.heap.size := (by omega))); have rS4 : RowAt w4 w.heap.size 25 #[.int .u64 src, .int .i64 seq, .int .u64 low, .int .u64 high] := (by (repeat' (first | (with_reducible assumption) | (with_reducible refine RowAt.drewN ?_ _) | (with_reducible refine RowAt.drew ?_) | (with_reducible apply RowAt.six) | (with_reducible apply RowAt.seven) | ((with_reducible refine RowAt.mk ?_ ?_); (focus (first | rfl | (simp; done))); rfl) | (with_reducible refine RowAt.alloc ?_ _) | (with_reducible refine RowAt.far ?_ ?_) | (with_reducible refine RowAt.run ?_ (by assumption)) | (with_reducible refine RowAt.below ?_ (by assumption) ?_) | (with_reducible refine RowAt.upd ?_ (by assumption) ?_) | (show _ < _; first | omega | (simp; done) | (simp; omega)) | (show ¬ _ = _; first | omega | (simp; done) | (simp; omega)) | exact rfl))); obtain ⟨rS4a, rS4b, rS4c, rS4d, rS4e, rS4f⟩ := row_facts rS4; (try (refine have_of (p := RowAt w4 x.heap.size 36 #[.slice none 0 0, .int .i64 0]) ?_ ?_; (focus ((repeat' (first | (with_reducible assumption) | (with_reducible refine RowAt.drewN ?_ _) | (with_reducible refine RowAt.drew ?_) | (with_reducible apply RowAt.seven) | (with_reducible apply RowAt.six) | (with_reducible refine RowAt.far7 ?_ ?_) | (with_reducible refine RowAt.far6 ?_ ?_) | (with_reducible refine RowAt.far1 ?_ ?_) | ((with_reducible refine RowAt.mk ?_ ?_); (focus (first | (with_reducible rfl) | (simp; done))); rfl) | (with_reducible refine RowAt.alloc ?_ _) | (with_reducible refine RowAt.run ?_ (by assumption)) | (with_reducible refine RowAt.below ?_ (by assumption) ?_) | (with_reducible refine RowAt.upd ?_ (by assumption) ?_) | (with_reducible show _ < _; first | omega | (simp; done) | (simp; omega)) | (with_reducible show ¬ _ = _; first | omega | (simp; done) | (simp; omega)) | (with_reducible exact rfl))); done)); intro hx; obtain ⟨x1, x2, x3, x4, x5, x6⟩ := row_facts hx)); have hz4 := hb4.size; (try simp at hz4); (try (have hn : ¬ w.heap.size = w4.heap.size := (by omega); have hn' : ¬ w4.heap.size = w.heap.size := (by omega))))
        | (go_at_call 12; refine (CR.out _ _ (by (repeat' (first | (with_reducible assumption) | (with_reducible refine DevsAt.run ?_ (by assumption)) | (with_reducible refine IdsAt.run ?_ (by assumption)) | (with_reducible refine MsgsAt.run ?_ (by assumption)) | (with_reducible refine DevsAt.alloc ?_ _) | (with_reducible refine IdsAt.alloc ?_ _) | (with_reducible refine DevsAt.drew ?_) | (with_reducible refine IdsAt.drew ?_))))).mono ?_; rintro e w5 ⟨v5, vf5, rfl, hd5, hi5, hb5⟩; (try (have hn : ¬ w.heap.size = x.heap.size := (by omega); have hn' : ¬ x.heap.size = w.heap.size := (by omega))); have rS5 : RowAt w5 w.heap.size 25 #[.int .u64 src, .int .i64 seq, .int .u64 low, .int .u64 high] := (by (repeat' (first | (with_reducible assumption) | (with_reducible refine RowAt.drewN ?_ _) | (with_reducible refine RowAt.drew ?_) | (with_reducible apply RowAt.six) | (with_reducible apply RowAt.seven) | ((with_reducible refine RowAt.mk ?_ ?_); (focus (first | rfl | (simp; done))); rfl) | (with_reducible refine RowAt.alloc ?_ _) | (with_reducible refine RowAt.far ?_ ?_) | (with_reducible refine RowAt.run ?_ (by assumption)) | (with_reducible refine RowAt.below ?_ (by assumption) ?_) | (with_reducible refine RowAt.upd ?_ (by assumption) ?_) | (show _ < _; first | omega | (simp; done) | (simp; omega)) | (show ¬ _ = _; first | omega | (simp; done) | (simp; omega)) | exact rfl))); obtain ⟨rS5a, rS5b, rS5c, rS5d, rS5e, rS5f⟩ := row_facts rS5; obtain ⟨ga, gn, gc, rfl⟩ := slice_of hi5; (try (refine have_of (p := RowAt w5 x.heap.size 36 #[.slice none 0 0, .int .i64 0]) ?_ ?_; (focus ((repeat' (first | (with_reducible assumption) | (with_reducible refine RowAt.drewN ?_ _) | (with_reducible refine RowAt.drew ?_) | (with_reducible apply RowAt.seven) | (with_reducible apply RowAt.six) | (with_reducible refine RowAt.far7 ?_ ?_) | (with_reducible refine RowAt.far6 ?_ ?_) | (with_reducible refine RowAt.far1 ?_ ?_) | ((with_reducible refine RowAt.mk ?_ ?_); (focus (first | (with_reducible rfl) | (simp; done))); rfl) | (with_reducible refine RowAt.alloc ?_ _) | (with_reducible refine RowAt.run ?_ (by assumption)) | (with_reducible refine RowAt.below ?_ (by assumption) ?_) | (with_reducible refine RowAt.upd ?_ (by assumption) ?_) | (with_reducible show _ < _; first | omega | (simp; done) | (simp; omega)) | (with_reducible show ¬ _ = _; first | omega | (simp; done) | (simp; omega)) | (with_reducible exact rfl))); done)); intro hx; obtain ⟨x1, x2, x3, x4, x5, x6⟩ := row_facts hx)); (try (refine have_of (p := RowAt w5 w4.heap.size 36 #[.slice none 0 0, .int .i64 0]) ?_ ?_; (focus ((repeat' (first | (with_reducible assumption) | (with_reducible refine RowAt.drewN ?_ _) | (with_reducible refine RowAt.drew ?_) | (with_reducible apply RowAt.seven) | (with_reducible apply RowAt.six) | (with_reducible refine RowAt.far7 ?_ ?_) | (with_reducible refine RowAt.far6 ?_ ?_) | (with_reducible refine RowAt.far1 ?_ ?_) | ((with_reducible refine RowAt.mk ?_ ?_); (focus (first | (with_reducible rfl) | (simp; done))); rfl) | (with_reducible refine RowAt.alloc ?_ _) | (with_reducible refine RowAt.run ?_ (by assumption)) | (with_reducible refine RowAt.below ?_ (by assumption) ?_) | (with_reducible refine RowAt.upd ?_ (by assumption) ?_) | (with_reducible show _ < _; first | omega | (simp; done) | (simp; omega)) | (with_reducible show ¬ _ = _; first | omega | (simp; done) | (simp; omega)) | (with_reducible exact rfl))); done)); intro hx; obtain ⟨x1, x2, x3, x4, x5, x6⟩ := row_facts hx)); have hz5 := hb5.size; (try simp at hz5)))
    all_goals (go_wp2_with fail; go_meet)
    all_goals (refine ⟨_, _, .slice ga gn gc, rfl, rfl, rfl, ?_⟩)
    all_goals (first | (with_reducible refine found2_new ?_ ?_ ?_ ?_ ?_ ?_) | (with_reducible refine found2 (a := none) (n := 0) (c := 0) (m := 0) ?_ ?_ ?_ ?_ ?_ ?_ ?_ ?_))
    all_goals (first | (focus ((repeat' (first | (with_reducible assumption) | (with_reducible refine RowAt.drewN ?_ _) | (with_reducible refine RowAt.drew ?_) | (with_reducible apply RowAt.seven) | (with_reducible apply RowAt.six) | (with_reducible refine RowAt.far7 ?_ ?_) | (with_reducible refine RowAt.far6 ?_ ?_) | (with_reducible refine RowAt.far1 ?_ ?_) | ((with_reducible refine RowAt.mk ?_ ?_); (focus (first | (with_reducible rfl) | (simp; done))); rfl) | (with_reducible refine RowAt.alloc ?_ _) | (with_reducible refine RowAt.run ?_ (by assumption)) | (with_reducible refine RowAt.below ?_ (by assumption) ?_) | (with_reducible refine RowAt.upd ?_ (by assumption) ?_) | (with_reducible show _ < _; first | omega | (simp; done) | (simp; omega)) | (with_reducible show ¬ _ = _; first | omega | (simp; done) | (simp; omega)) | (with_reducible exact rfl))); done)) | (focus ((repeat' (first | (with_reducible assumption) | (with_reducible refine DevsAt.run ?_ (by assumption)) | (with_reducible refine IdsAt.run ?_ (by assumption)) | (with_reducible refine MsgsAt.run ?_ (by assumption)) | (with_reducible refine DevsAt.alloc ?_ _) | (with_reducible refine IdsAt.alloc ?_ _) | (with_reducible refine DevsAt.drew ?_) | (with_reducible refine IdsAt.drew ?_))); done)) | (focus ((repeat' (first | (with_reducible exact Below.refl _ _) | (with_reducible assumption) | (with_reducible refine below_run ?_ (by assumption)) | (with_reducible refine below_of_upd ?_ (by assumption) ?_) | (with_reducible refine below_drewN ?_ _) | (with_reducible refine Below.drew ?_) | (with_reducible refine below_seven ?_ ?_) | (with_reducible refine below_six ?_ ?_) | (with_reducible refine below_one ?_ ?_) | (with_reducible refine Below.alloc ?_ ?_ _) | (with_reducible refine below_after ?_ ?_ (by assumption)) | (show _ ≤ _; first | omega | (simp; done) | (simp; omega)))); done)) | omega | (simp; omega))
  case rest =>
    obtain ⟨g, v2, vf2, rfl, rfl, rfl, F⟩ := hcut
    have z3 : (n == n) = true := by simp
    clear x1 x2 x3 x4 x5 x6 rF rS kV kD kI kB hkx
    have HF := Lib.hid F
    clear F
    go_wp2_with fail
    refine (awake48_any _).mono ?_
    rintro e w6 ⟨rfl, hb6⟩
    have F6 := Lib.hid (HF.out.run hb6)
    clear hb6
    go_wp2_with fail
    refine (CD.out _ u.devs _ F6.out.d1 (by have := HUL.out; omega)).mono ?_
    rintro e w7 ⟨v7, rfl, hd7, hb7⟩
    have F7 := Lib.hid (F6.out.run hb7)
    have HD7 := Lib.hid hd7
    clear hb7 hd7
    go_wp2_with fail
    refine (same_any _ _ u.devs _ HD7.out F7.out.d2).mono ?_
    rintro e w8 ⟨rfl, hb8⟩
    have F8 := F7.out.run hb8
    obtain ⟨ga, gn, gc, rfl⟩ := slice_of F8.i2
    obtain ⟨p1, p2, p3, p4, p5, p6⟩ := row_facts F8.r1
    obtain ⟨q1, q2, q3, q4, q5, q6⟩ := row_facts F8.r2
    have HF8 := Lib.hid F8
    clear F8 hb8
    go_wp2_with fail
    refine (samefind_any _ _ N u.found _ HF8.out.i1 HF8.out.i2).mono ?_
    rintro e w9 ⟨rfl, hb9⟩
    go_wp2
    go_ret
    exact ⟨rfl, below_run HF8.out.below hb9⟩
end Go.Proofs.YtiemdccjphdbmaaGreat
