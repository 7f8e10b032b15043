/-
  The walk of the law that answers match messages.
-/
import Derived.Test.YtdklpmaeajpacaaDoorAwm
import Derived.Test.YtdklpmaeajpacaaDoorRreq
namespace Go.Proofs.YtdklpmaeajpacaaDoor
open Go.RowKit

set_option maxHeartbeats 4000000 in
set_option maxRecDepth 100000 in
theorem law_matches46 (dst src seq kind par dst' src' seq' kind' par' : Int) (dat dat' : ByteArray) (w : World) (h : Tab w) :
    Calls Tryd.prog 7 #[.agg #[.int .u64 dst, .int .u64 src, .int .i64 seq, .int .i64 kind, .int .i64 par, .string dat], .agg #[.int .u64 dst', .int .u64 src', .int .i64 seq', .int .i64 kind', .int .i64 par', .string dat']] w fun e w' => e = .returned (.bool true) ∧ Below w.heap.size w w' := by
  have HT := Lib.hid ((h.alloc (.cells #[.int .u64 dst, .int .u64 src, .int .i64 seq, .int .i64 kind, .int .i64 par, .string dat] 24)).alloc (.cells #[.int .u64 dst', .int .u64 src', .int .i64 seq', .int .i64 kind', .int .i64 par', .string dat'] 24))
  clear h
  by_cases hs : dat.size ≤ 600 ∧ dat'.size ≤ 600
  · have s1 : ¬ (600 : Int) < (dat.size : Int) := by omega
    have s2 : ¬ (600 : Int) < (dat'.size : Int) := by omega
    clear hs
    obtain ⟨q, hq⟩ : ∃ q, matchesM ⟨dst, src, seq, kind, par, dat⟩ ⟨dst', src', seq', kind', par', dat'⟩ = q := ⟨_, rfl⟩
    have c1 := matches_any dst src seq kind par dst' src' seq' kind' par' dat dat'
    have c2 := refmatches_any dst src seq kind par dst' src' seq' kind' par' dat dat'
    rw [hq] at c1 c2
    have C1 := Lib.hid c1
    have C2 := Lib.hid c2
    clear c1 c2 hq
    go_enter Tryd.func7, Tryd.ntmps7
    go_wp2_with fail
    have ka : RowAt ((w.alloc (.cells #[.int .u64 dst, .int .u64 src, .int .i64 seq, .int .i64 kind, .int .i64 par, .string dat] 24)).alloc (.cells #[.int .u64 dst', .int .u64 src', .int .i64 seq', .int .i64 kind', .int .i64 par', .string dat'] 24)) w.heap.size 24 #[.int .u64 dst, .int .u64 src, .int .i64 seq, .int .i64 kind, .int .i64 par, .string dat] := (RowAt.mk rfl rfl).alloc _
    have kb : RowAt ((w.alloc (.cells #[.int .u64 dst, .int .u64 src, .int .i64 seq, .int .i64 kind, .int .i64 par, .string dat] 24)).alloc (.cells #[.int .u64 dst', .int .u64 src', .int .i64 seq', .int .i64 kind', .int .i64 par', .string dat'] 24)) (w.heap.size + 1) 24 #[.int .u64 dst', .int .u64 src', .int .i64 seq', .int .i64 kind', .int .i64 par', .string dat'] := RowAt.mk (by simp) rfl
    have kw : Below w.heap.size w ((w.alloc (.cells #[.int .u64 dst, .int .u64 src, .int .i64 seq, .int .i64 kind, .int .i64 par, .string dat] 24)).alloc (.cells #[.int .u64 dst', .int .u64 src', .int .i64 seq', .int .i64 kind', .int .i64 par', .string dat'] 24)) := by (repeat' (first | (with_reducible exact Below.refl _ _) | (with_reducible assumption) | (with_reducible refine below_drewN ?_ _) | (with_reducible refine Below.drew ?_) | (with_reducible refine Below.setCell ?_ ?_ _) | (with_reducible refine Below.alloc ?_ ?_ _) | (with_reducible refine below_after ?_ ?_ (by assumption)) | (show _ ≤ _; first | omega | (simp; done) | (simp; omega))))
    generalize (w.alloc (.cells #[.int .u64 dst, .int .u64 src, .int .i64 seq, .int .i64 kind, .int .i64 par, .string dat] 24)).alloc (.cells #[.int .u64 dst', .int .u64 src', .int .i64 seq', .int .i64 kind', .int .i64 par', .string dat'] 24) = wz at HT ka kb kw ⊢
    have hT := HT.out
    obtain ⟨a1, a2, a3, a4, a5, a6⟩ := row_facts ka
    obtain ⟨b1, b2, b3, b4, b5, b6⟩ := row_facts kb
    go_cut [4] (fun s4 wx => s4 = .bool true ∧ Below w.heap.size w wx)
    case first =>
      go_region_held3 (fun w' => w'.cell? ⟨w.heap.size, 0, none⟩ = some (.int .u64 dst) ∧ w'.cell? ⟨w.heap.size, 1, none⟩ = some (.int .u64 src) ∧ w'.cell? ⟨w.heap.size, 2, none⟩ = some (.int .i64 seq) ∧ w'.cell? ⟨w.heap.size, 3, none⟩ = some (.int .i64 kind) ∧ w'.cell? ⟨w.heap.size, 4, none⟩ = some (.int .i64 par) ∧ w'.cell? ⟨w.heap.size, 5, none⟩ = some (.string dat) ∧ w'.cell? ⟨w.heap.size + 1, 0, none⟩ = some (.int .u64 dst') ∧ w'.cell? ⟨w.heap.size + 1, 1, none⟩ = some (.int .u64 src') ∧ w'.cell? ⟨w.heap.size + 1, 2, none⟩ = some (.int .i64 seq') ∧ w'.cell? ⟨w.heap.size + 1, 3, none⟩ = some (.int .i64 kind') ∧ w'.cell? ⟨w.heap.size + 1, 4, none⟩ = some (.int .i64 par') ∧ w'.cell? ⟨w.heap.size + 1, 5, none⟩ = some (.string dat')) (go_keep)
        (first
          | (go_at_call 13; refine (awake46_any _ (by repeat' (first | (with_reducible assumption) | (with_reducible refine Tab.drewN ?_ _) | (with_reducible refine Tab.drew ?_) | (with_reducible refine Tab.alloc ?_ _) | (with_reducible refine Tab.run ?_ (by assumption))))).mono ?_; rintro e w3 ⟨rfl, hb3⟩; have r3 : RowAt w3 w.heap.size 24 #[.int .u64 dst, .int .u64 src, .int .i64 seq, .int .i64 kind, .int .i64 par, .string dat] := (by (repeat' (first | (with_reducible assumption) | (with_reducible refine RowAt.drewN ?_ _) | (with_reducible refine RowAt.drew ?_) | (with_reducible apply RowAt.six) | (with_reducible apply RowAt.seven) | ((with_reducible refine RowAt.mk ?_ ?_); (focus (first | rfl | (simp; done))); rfl) | (with_reducible refine RowAt.alloc ?_ _) | (with_reducible refine RowAt.far ?_ ?_) | (with_reducible refine RowAt.run ?_ (by assumption)) | (with_reducible refine RowAt.below ?_ (by assumption) ?_) | (with_reducible refine RowAt.upd ?_ (by assumption) ?_) | (show _ < _; first | omega | (simp; done) | (simp; omega)) | (show ¬ _ = _; first | omega | (simp; done) | (simp; omega)) | exact rfl))); obtain ⟨r3a, r3b, r3c, r3d, r3e, r3f⟩ := row_facts r3; have q3 : RowAt w3 (w.heap.size + 1) 24 #[.int .u64 dst', .int .u64 src', .int .i64 seq', .int .i64 kind', .int .i64 par', .string dat'] := (by (repeat' (first | (with_reducible assumption) | (with_reducible refine RowAt.drewN ?_ _) | (with_reducible refine RowAt.drew ?_) | (with_reducible apply RowAt.six) | (with_reducible apply RowAt.seven) | ((with_reducible refine RowAt.mk ?_ ?_); (focus (first | rfl | (simp; done))); rfl) | (with_reducible refine RowAt.alloc ?_ _) | (with_reducible refine RowAt.far ?_ ?_) | (with_reducible refine RowAt.run ?_ (by assumption)) | (with_reducible refine RowAt.below ?_ (by assumption) ?_) | (with_reducible refine RowAt.upd ?_ (by assumption) ?_) | (show _ < _; first | omega | (simp; done) | (simp; omega)) | (show ¬ _ = _; first | omega | (simp; done) | (simp; omega)) | exact rfl))); obtain ⟨q3a, q3b, q3c, q3d, q3e, q3f⟩ := row_facts q3)
          | (go_at_call 24; refine (C1.out _).mono ?_; rintro e w4 ⟨rfl, hb4⟩; have r4 : RowAt w4 w.heap.size 24 #[.int .u64 dst, .int .u64 src, .int .i64 seq, .int .i64 kind, .int .i64 par, .string dat] := (by (repeat' (first | (with_reducible assumption) | (with_reducible refine RowAt.drewN ?_ _) | (with_reducible refine RowAt.drew ?_) | (with_reducible apply RowAt.six) | (with_reducible apply RowAt.seven) | ((with_reducible refine RowAt.mk ?_ ?_); (focus (first | rfl | (simp; done))); rfl) | (with_reducible refine RowAt.alloc ?_ _) | (with_reducible refine RowAt.far ?_ ?_) | (with_reducible refine RowAt.run ?_ (by assumption)) | (with_reducible refine RowAt.below ?_ (by assumption) ?_) | (with_reducible refine RowAt.upd ?_ (by assumption) ?_) | (show _ < _; first | omega | (simp; done) | (simp; omega)) | (show ¬ _ = _; first | omega | (simp; done) | (simp; omega)) | exact rfl))); obtain ⟨r4a, r4b, r4c, r4d, r4e, r4f⟩ := row_facts r4; have q4 : RowAt w4 (w.heap.size + 1) 24 #[.int .u64 dst', .int .u64 src', .int .i64 seq', .int .i64 kind', .int .i64 par', .string dat'] := (by (repeat' (first | (with_reducible assumption) | (with_reducible refine RowAt.drewN ?_ _) | (with_reducible refine RowAt.drew ?_) | (with_reducible apply RowAt.six) | (with_reducible apply RowAt.seven) | ((with_reducible refine RowAt.mk ?_ ?_); (focus (first | rfl | (simp; done))); rfl) | (with_reducible refine RowAt.alloc ?_ _) | (with_reducible refine RowAt.far ?_ ?_) | (with_reducible refine RowAt.run ?_ (by assumption)) | (with_reducible refine RowAt.below ?_ (by assumption) ?_) | (with_reducible refine RowAt.upd ?_ (by assumption) ?_) | (show _ < _; first | omega | (simp; done) | (simp; omega)) | (show ¬ _ = _; first | omega | (simp; done) | (simp; omega)) | exact rfl))); obtain ⟨q4a, q4b, q4c, q4d, q4e, q4f⟩ := row_facts q4)
          | (go_at_call 25; refine (C2.out _).mono ?_; rintro e w5 ⟨rfl, hb5⟩; have r5 : RowAt w5 w.heap.size 24 #[.int .u64 dst, .int .u64 src, .int .i64 seq, .int .i64 kind, .int .i64 par, .string dat] := (by (repeat' (first | (with_reducible assumption) | (with_reducible refine RowAt.drewN ?_ _) | (with_reducible refine RowAt.drew ?_) | (with_reducible apply RowAt.six) | (with_reducible apply RowAt.seven) | ((with_reducible refine RowAt.mk ?_ ?_); (focus (first | rfl | (simp; done))); rfl) | (with_reducible refine RowAt.alloc ?_ _) | (with_reducible refine RowAt.far ?_ ?_) | (with_reducible refine RowAt.run ?_ (by assumption)) | (with_reducible refine RowAt.below ?_ (by assumption) ?_) | (with_reducible refine RowAt.upd ?_ (by assumption) ?_) | (show _ < _; first | omega | (simp; done) | (simp; omega)) | (show ¬ _ = _; first | omega | (simp; done) | (simp; omega)) | exact rfl))); obtain ⟨r5a, r5b, r5c, r5d, r5e, r5f⟩ := row_facts r5; have q5 : RowAt w5 (w.heap.size + 1) 24 #[.int .u64 dst', .int .u64 src', .int .i64 seq', .int .i64 kind', .int .i64 par', .string dat'] := (by (repeat' (first | (with_reducible assumption) | (with_reducible refine RowAt.drewN ?_ _) | (with_reducible refine RowAt.drew ?_) | (with_reducible apply RowAt.six) | (with_reducible apply RowAt.seven) | ((with_reducible refine RowAt.mk ?_ ?_); (focus (first | rfl | (simp; done))); rfl) | (with_reducible refine RowAt.alloc ?_ _) | (with_reducible refine RowAt.far ?_ ?_) | (with_reducible refine RowAt.run ?_ (by assumption)) | (with_reducible refine RowAt.below ?_ (by assumption) ?_) | (with_reducible refine RowAt.upd ?_ (by assumption) ?_) | (show _ < _; first | omega | (simp; done) | (simp; omega)) | (show ¬ _ = _; first | omega | (simp; done) | (simp; omega)) | exact rfl))); obtain ⟨q5a, q5b, q5c, q5d, q5e, q5f⟩ := row_facts q5))
      all_goals go_wp2_with fail
      all_goals go_goals
      all_goals (go_meet; exact ⟨rfl, by (repeat' (first | (with_reducible exact Below.refl _ _) | (with_reducible assumption) | (with_reducible refine below_run ?_ (by assumption)) | (with_reducible refine below_of_upd ?_ (by assumption) ?_) | (with_reducible refine below_drewN ?_ _) | (with_reducible refine Below.drew ?_) | (with_reducible refine Below.setCell ?_ ?_ _) | (with_reducible refine Below.alloc ?_ ?_ _) | (with_reducible refine below_after ?_ ?_ (by assumption)) | (show _ ≤ _; first | omega | (simp; done) | (simp; omega))))⟩)
    case rest =>
      obtain ⟨rfl, hbb⟩ := hcut
      go_wp2
      go_ret
      exact ⟨rfl, hbb⟩
  · by_cases s1 : dat.size ≤ 600
    · have i1 : ¬ (600 : Int) < (dat.size : Int) := by omega
      have i2 : (600 : Int) < (dat'.size : Int) := by omega
      clear hs s1
      go_enter Tryd.func7, Tryd.ntmps7
      go_wp2_with fail
      refine (awake46_any _ HT.out).mono ?_
      rintro e w1 ⟨rfl, hb1⟩
      go_wp2
      go_ret
      exact ⟨rfl, by (repeat' (first | (with_reducible exact Below.refl _ _) | (with_reducible assumption) | (with_reducible refine below_run ?_ (by assumption)) | (with_reducible refine below_of_upd ?_ (by assumption) ?_) | (with_reducible refine below_drewN ?_ _) | (with_reducible refine Below.drew ?_) | (with_reducible refine Below.setCell ?_ ?_ _) | (with_reducible refine Below.alloc ?_ ?_ _) | (with_reducible refine below_after ?_ ?_ (by assumption)) | (show _ ≤ _; first | omega | (simp; done) | (simp; omega))))⟩
    · have i1 : (600 : Int) < (dat.size : Int) := by omega
      clear hs s1
      go_enter Tryd.func7, Tryd.ntmps7
      go_wp2_with fail
      refine (awake46_any _ HT.out).mono ?_
      rintro e w1 ⟨rfl, hb1⟩
      go_wp2
      go_ret
      exact ⟨rfl, by (repeat' (first | (with_reducible exact Below.refl _ _) | (with_reducible assumption) | (with_reducible refine below_run ?_ (by assumption)) | (with_reducible refine below_of_upd ?_ (by assumption) ?_) | (with_reducible refine below_drewN ?_ _) | (with_reducible refine Below.drew ?_) | (with_reducible refine Below.setCell ?_ ?_ _) | (with_reducible refine Below.alloc ?_ ?_ _) | (with_reducible refine below_after ?_ ?_ (by assumption)) | (show _ ≤ _; first | omega | (simp; done) | (simp; omega))))⟩

end Go.Proofs.YtdklpmaeajpacaaDoor
