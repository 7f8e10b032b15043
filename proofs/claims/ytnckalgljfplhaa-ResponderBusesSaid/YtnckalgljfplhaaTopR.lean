/-
  The contract of the reference's receiving, from outside.
-/
import Derived.Test.YtnckalgljfplhaaTop
namespace Go.Proofs.Ytnckalgljfplhaa
open Go.RowKit

set_option maxHeartbeats 1000000 in
set_option maxRecDepth 100000 in
theorem refreceive_any (id ft ad hr dst src seq kind par : Int) (lb dat : ByteArray) (mu idf : Bool) (w : World) (hl : lb.size ≤ 9223372036854775807) (hds : dat.size ≤ 9223372036854775807) :
    Calls Try.prog 14 #[.agg #[.int .u64 id, .int .i64 ft, .int .i64 ad, .string lb, .int .i64 hr, .bool mu, .bool idf], .agg #[.int .u64 dst, .int .u64 src, .int .i64 seq, .int .i64 kind, .int .i64 par, .string dat]] w (ReceivePost (receiveD ⟨id, ft, ad, lb, hr, mu, idf⟩ ⟨dst, src, seq, kind, par, dat⟩) w) := by
  obtain ⟨n1, h1⟩ : ∃ n, chkD ⟨id, ft, ad, lb, hr, mu, idf⟩ = n := ⟨_, rfl⟩
  obtain ⟨n2, h2⟩ : ∃ n, chk ⟨dst, src, seq, kind, par, dat⟩ = n := ⟨_, rfl⟩
  obtain ⟨d', a, q, hra⟩ : ∃ d' a q, recvD ⟨id, ft, ad, lb, hr, mu, idf⟩ ⟨dst, src, seq, kind, par, dat⟩ = (d', a, q) := ⟨_, _, _, rfl⟩
  have H1 := Lib.hid h1
  have H2 := Lib.hid h2
  have HRA := Lib.hid hra
  clear h1 h2 hra
  by_cases z1 : n1 = 0
  · subst z1
    by_cases z2 : n2 = 0
    · subst z2
      have hrv := receiveD_ok H1.out H2.out HRA.out
      rw [hrv]
      clear hrv
      go_enter Try.func14, Try.ntmps14
      go_wp2_with (first | (go_at_call 15; refine (refdchk_is 0 _ _ _ _ _ _ _ _ H1 hl).mono ?_; rintro e w1 ⟨rfl, hb⟩; have hz := hb.size; (try simp at hz); obtain ⟨hc, hf, hT1, hT2, hT3, hT4, hz⟩ := bfacts (n := w.heap.size + 4) hb (by first | (simp; done) | (simp; omega) | omega)) | (go_at_call 23; refine (refchk_is 0 _ _ _ _ _ _ _ H2).mono ?_; rintro e w2 ⟨rfl, hb⟩; have hz := hb.size; (try simp at hz); obtain ⟨hc, hf, hT1, hT2, hT3, hT4, hz⟩ := bfacts (n := w.heap.size + 4) hb (by first | (simp; done) | (simp; omega) | omega)))
      have hsz : w.heap.size + 1 + 1 + 1 + 1 ≤ w2.heap.size := by omega
      have hX : RowAt w2 (w.heap.size + 1 + 1) 28 #[.int .u64 0, .int .i64 0, .int .i64 0, .string ⟨#[]⟩, .int .i64 0, .bool false, .bool false] := by (repeat' (first | (with_reducible assumption) | (with_reducible refine RowAt.drewN ?_ _) | (with_reducible refine RowAt.drew ?_) | (with_reducible apply RowAt.six) | (with_reducible apply RowAt.seven) | ((with_reducible refine RowAt.mk ?_ ?_); (focus (first | rfl | (simp; done))); rfl) | (with_reducible refine RowAt.alloc ?_ _) | (with_reducible refine RowAt.far ?_ ?_) | (with_reducible refine RowAt.run ?_ (by assumption)) | (with_reducible refine RowAt.below ?_ (by assumption) ?_) | (with_reducible refine RowAt.upd ?_ (by assumption) ?_) | (show _ < _; first | omega | (simp; done) | (simp; omega)) | (show ¬ _ = _; first | omega | (simp; done) | (simp; omega)) | exact rfl))
      have hY : RowAt w2 (w.heap.size + 1 + 1 + 1) 26 #[.int .u64 0, .int .u64 0, .int .i64 0, .int .i64 0, .int .i64 0, .string ⟨#[]⟩] := by (repeat' (first | (with_reducible assumption) | (with_reducible refine RowAt.drewN ?_ _) | (with_reducible refine RowAt.drew ?_) | (with_reducible apply RowAt.six) | (with_reducible apply RowAt.seven) | ((with_reducible refine RowAt.mk ?_ ?_); (focus (first | rfl | (simp; done))); rfl) | (with_reducible refine RowAt.alloc ?_ _) | (with_reducible refine RowAt.far ?_ ?_) | (with_reducible refine RowAt.run ?_ (by assumption)) | (with_reducible refine RowAt.below ?_ (by assumption) ?_) | (with_reducible refine RowAt.upd ?_ (by assumption) ?_) | (show _ < _; first | omega | (simp; done) | (simp; omega)) | (show ¬ _ = _; first | omega | (simp; done) | (simp; omega)) | exact rfl))
      have hB : Below w.heap.size w w2 := by (repeat' (first | (with_reducible exact Below.refl _ _) | (with_reducible assumption) | (with_reducible refine below_run ?_ (by assumption)) | (with_reducible refine below_of_upd ?_ (by assumption) ?_) | (with_reducible refine below_drewN ?_ _) | (with_reducible refine Below.drew ?_) | (with_reducible refine Below.setCell ?_ ?_ _) | (with_reducible refine Below.alloc ?_ ?_ _) | (with_reducible refine below_after ?_ ?_ (by assumption)) | (show _ ≤ _; first | omega | (simp; done) | (simp; omega))))
      refine (rcvd_any id ft ad hr dst src seq kind par lb dat mu idf w2 H1.out H2.out hds).mono ?_
      rintro e w3 ⟨rfl, hb3⟩
      rw [HRA.out]
      have hz3 := hb3.size
      go_wp2
      have kb : Below w.heap.size w ((w3.alloc (.cells #[.int .u64 d'.id, .int .i64 d'.ft, .int .i64 d'.ad, .string d'.lb, .int .i64 d'.hr, .bool d'.mu, .bool d'.idf] 28)).alloc (.cells #[.int .u64 a.dst, .int .u64 a.src, .int .i64 a.seq, .int .i64 a.kind, .int .i64 a.par, .string a.dat] 26)) := by (repeat' (first | (with_reducible exact Below.refl _ _) | (with_reducible assumption) | (with_reducible refine below_run ?_ (by assumption)) | (with_reducible refine below_of_upd ?_ (by assumption) ?_) | (with_reducible refine below_drewN ?_ _) | (with_reducible refine Below.drew ?_) | (with_reducible refine Below.setCell ?_ ?_ _) | (with_reducible refine Below.alloc ?_ ?_ _) | (with_reducible refine below_after ?_ ?_ (by assumption)) | (show _ ≤ _; first | omega | (simp; done) | (simp; omega))))
      have kx : RowAt ((w3.alloc (.cells #[.int .u64 d'.id, .int .i64 d'.ft, .int .i64 d'.ad, .string d'.lb, .int .i64 d'.hr, .bool d'.mu, .bool d'.idf] 28)).alloc (.cells #[.int .u64 a.dst, .int .u64 a.src, .int .i64 a.seq, .int .i64 a.kind, .int .i64 a.par, .string a.dat] 26)) (w.heap.size + 1 + 1) 28 #[.int .u64 0, .int .i64 0, .int .i64 0, .string ⟨#[]⟩, .int .i64 0, .bool false, .bool false] := by (repeat' (first | (with_reducible assumption) | (with_reducible refine RowAt.drewN ?_ _) | (with_reducible refine RowAt.drew ?_) | (with_reducible apply RowAt.six) | (with_reducible apply RowAt.seven) | ((with_reducible refine RowAt.mk ?_ ?_); (focus (first | rfl | (simp; done))); rfl) | (with_reducible refine RowAt.alloc ?_ _) | (with_reducible refine RowAt.far ?_ ?_) | (with_reducible refine RowAt.run ?_ (by assumption)) | (with_reducible refine RowAt.below ?_ (by assumption) ?_) | (with_reducible refine RowAt.upd ?_ (by assumption) ?_) | (show _ < _; first | omega | (simp; done) | (simp; omega)) | (show ¬ _ = _; first | omega | (simp; done) | (simp; omega)) | exact rfl))
      have ky : RowAt ((w3.alloc (.cells #[.int .u64 d'.id, .int .i64 d'.ft, .int .i64 d'.ad, .string d'.lb, .int .i64 d'.hr, .bool d'.mu, .bool d'.idf] 28)).alloc (.cells #[.int .u64 a.dst, .int .u64 a.src, .int .i64 a.seq, .int .i64 a.kind, .int .i64 a.par, .string a.dat] 26)) (w.heap.size + 1 + 1 + 1) 26 #[.int .u64 0, .int .u64 0, .int .i64 0, .int .i64 0, .int .i64 0, .string ⟨#[]⟩] := by (repeat' (first | (with_reducible assumption) | (with_reducible refine RowAt.drewN ?_ _) | (with_reducible refine RowAt.drew ?_) | (with_reducible apply RowAt.six) | (with_reducible apply RowAt.seven) | ((with_reducible refine RowAt.mk ?_ ?_); (focus (first | rfl | (simp; done))); rfl) | (with_reducible refine RowAt.alloc ?_ _) | (with_reducible refine RowAt.far ?_ ?_) | (with_reducible refine RowAt.run ?_ (by assumption)) | (with_reducible refine RowAt.below ?_ (by assumption) ?_) | (with_reducible refine RowAt.upd ?_ (by assumption) ?_) | (show _ < _; first | omega | (simp; done) | (simp; omega)) | (show ¬ _ = _; first | omega | (simp; done) | (simp; omega)) | exact rfl))
      have kd : RowAt ((w3.alloc (.cells #[.int .u64 d'.id, .int .i64 d'.ft, .int .i64 d'.ad, .string d'.lb, .int .i64 d'.hr, .bool d'.mu, .bool d'.idf] 28)).alloc (.cells #[.int .u64 a.dst, .int .u64 a.src, .int .i64 a.seq, .int .i64 a.kind, .int .i64 a.par, .string a.dat] 26)) w3.heap.size 28 #[.int .u64 d'.id, .int .i64 d'.ft, .int .i64 d'.ad, .string d'.lb, .int .i64 d'.hr, .bool d'.mu, .bool d'.idf] := by (repeat' (first | (with_reducible assumption) | (with_reducible refine RowAt.drewN ?_ _) | (with_reducible refine RowAt.drew ?_) | (with_reducible apply RowAt.six) | (with_reducible apply RowAt.seven) | ((with_reducible refine RowAt.mk ?_ ?_); (focus (first | rfl | (simp; done))); rfl) | (with_reducible refine RowAt.alloc ?_ _) | (with_reducible refine RowAt.far ?_ ?_) | (with_reducible refine RowAt.run ?_ (by assumption)) | (with_reducible refine RowAt.below ?_ (by assumption) ?_) | (with_reducible refine RowAt.upd ?_ (by assumption) ?_) | (show _ < _; first | omega | (simp; done) | (simp; omega)) | (show ¬ _ = _; first | omega | (simp; done) | (simp; omega)) | exact rfl))
      have ka : RowAt ((w3.alloc (.cells #[.int .u64 d'.id, .int .i64 d'.ft, .int .i64 d'.ad, .string d'.lb, .int .i64 d'.hr, .bool d'.mu, .bool d'.idf] 28)).alloc (.cells #[.int .u64 a.dst, .int .u64 a.src, .int .i64 a.seq, .int .i64 a.kind, .int .i64 a.par, .string a.dat] 26)) (w3.heap.size + 1) 26 #[.int .u64 a.dst, .int .u64 a.src, .int .i64 a.seq, .int .i64 a.kind, .int .i64 a.par, .string a.dat] := by (repeat' (first | (with_reducible assumption) | (with_reducible refine RowAt.drewN ?_ _) | (with_reducible refine RowAt.drew ?_) | (with_reducible apply RowAt.six) | (with_reducible apply RowAt.seven) | ((with_reducible refine RowAt.mk ?_ ?_); (focus (first | rfl | (simp; done))); rfl) | (with_reducible refine RowAt.alloc ?_ _) | (with_reducible refine RowAt.far ?_ ?_) | (with_reducible refine RowAt.run ?_ (by assumption)) | (with_reducible refine RowAt.below ?_ (by assumption) ?_) | (with_reducible refine RowAt.upd ?_ (by assumption) ?_) | (show _ < _; first | omega | (simp; done) | (simp; omega)) | (show ¬ _ = _; first | omega | (simp; done) | (simp; omega)) | exact rfl))
      generalize (w3.alloc (.cells #[.int .u64 d'.id, .int .i64 d'.ft, .int .i64 d'.ad, .string d'.lb, .int .i64 d'.hr, .bool d'.mu, .bool d'.idf] 28)).alloc (.cells #[.int .u64 a.dst, .int .u64 a.src, .int .i64 a.seq, .int .i64 a.kind, .int .i64 a.par, .string a.dat] 26) = wz at kb kd kx ky ka ⊢
      obtain ⟨g, hg⟩ : ∃ g, w3.heap.size = g := ⟨_, rfl⟩
      rw [hg] at ka kd hz3
      clear hb3 hX hY hB
      have g1 : ¬ g = w.heap.size + 1 + 1 := by omega
      have g2 : ¬ w.heap.size + 1 + 1 = g := by omega
      have g3 : ¬ g = w.heap.size + 1 + 1 + 1 := by omega
      have g4 : ¬ w.heap.size + 1 + 1 + 1 = g := by omega
      have g5 : ¬ g + 1 = w.heap.size + 1 + 1 := by omega
      have g6 : ¬ w.heap.size + 1 + 1 = g + 1 := by omega
      have g7 : ¬ g + 1 = w.heap.size + 1 + 1 + 1 := by omega
      have g8 : ¬ w.heap.size + 1 + 1 + 1 = g + 1 := by omega
      have g9 : ¬ g = w.heap.size + 1 := by omega
      have g10 : ¬ w.heap.size + 1 = g := by omega
      obtain ⟨d1, d2, d3, d4, d5, d6⟩ := row_facts kd
      obtain ⟨x1, x2, x3, x4, x5, x6⟩ := row_facts kx
      obtain ⟨y1, y2, y3, y4, y5, y6⟩ := row_facts ky
      obtain ⟨a1, a2, a3, a4, a5, a6⟩ := row_facts ka
      go_region_held3 (fun w' => w'.cell? ⟨g, 0, none⟩ = some (.int .u64 d'.id) ∧ w'.cell? ⟨g, 1, none⟩ = some (.int .i64 d'.ft) ∧ w'.cell? ⟨g, 2, none⟩ = some (.int .i64 d'.ad) ∧ w'.cell? ⟨g, 3, none⟩ = some (.string d'.lb) ∧ w'.cell? ⟨g, 4, none⟩ = some (.int .i64 d'.hr) ∧ w'.cell? ⟨g, 5, none⟩ = some (.bool d'.mu) ∧ w'.cell? ⟨g, 6, none⟩ = some (.bool d'.idf) ∧ w'.cell? ⟨g + 1, 0, none⟩ = some (.int .u64 a.dst) ∧ w'.cell? ⟨g + 1, 1, none⟩ = some (.int .u64 a.src) ∧ w'.cell? ⟨g + 1, 2, none⟩ = some (.int .i64 a.seq) ∧ w'.cell? ⟨g + 1, 3, none⟩ = some (.int .i64 a.kind) ∧ w'.cell? ⟨g + 1, 4, none⟩ = some (.int .i64 a.par) ∧ w'.cell? ⟨g + 1, 5, none⟩ = some (.string a.dat)) (go_keep) (fail)
      all_goals (go_wp2)
      all_goals (refine bodyPost_ret (v := .tuple #[devV d', msgV a, .bool q, .int .i64 0]) ?_ rfl ⟨rfl, by (repeat' (first | (with_reducible exact Below.refl _ _) | (with_reducible assumption) | (with_reducible refine below_run ?_ (by assumption)) | (with_reducible refine below_of_upd ?_ (by assumption) ?_) | (with_reducible refine below_drewN ?_ _) | (with_reducible refine Below.drew ?_) | (with_reducible refine Below.setCell ?_ ?_ _) | (with_reducible refine Below.alloc ?_ ?_ _) | (with_reducible refine below_after ?_ ?_ (by assumption)) | (show _ ≤ _; first | omega | (simp; done) | (simp; omega))))⟩; simp [results, Try.results14, go_sem, *])
    · have e2 : (n2 != 0) = true := by simpa using z2
      rw [receiveD_badM H1.out H2.out z2]
      clear z2
      go_enter Try.func14, Try.ntmps14
      go_wp2_with (first | (go_at_call 15; refine (refdchk_is 0 _ _ _ _ _ _ _ _ H1 hl).mono ?_; rintro e w1 ⟨rfl, hb⟩; have hz := hb.size; (try simp at hz); obtain ⟨hc, hf, hT1, hT2, hT3, hT4, hz⟩ := bfacts (n := w.heap.size + 4) hb (by first | (simp; done) | (simp; omega) | omega)) | (go_at_call 23; refine (refchk_is n2 _ _ _ _ _ _ _ H2).mono ?_; rintro e w2 ⟨rfl, hb⟩; have hz := hb.size; (try simp at hz); obtain ⟨hc, hf, hT1, hT2, hT3, hT4, hz⟩ := bfacts (n := w.heap.size + 4) hb (by first | (simp; done) | (simp; omega) | omega)))
      refine bodyPost_ret (v := .tuple #[devV zeroD, msgV zeroM, .bool false, .int .i64 n2]) ?_ rfl ⟨rfl, by (repeat' (first | (with_reducible exact Below.refl _ _) | (with_reducible assumption) | (with_reducible refine below_run ?_ (by assumption)) | (with_reducible refine below_of_upd ?_ (by assumption) ?_) | (with_reducible refine below_drewN ?_ _) | (with_reducible refine Below.drew ?_) | (with_reducible refine Below.setCell ?_ ?_ _) | (with_reducible refine Below.alloc ?_ ?_ _) | (with_reducible refine below_after ?_ ?_ (by assumption)) | (show _ ≤ _; first | omega | (simp; done) | (simp; omega))))⟩
      simp [results, Try.results14, go_sem, zeroM, zeroD, *]
  · have e2 : (n1 != 0) = true := by simpa using z1
    rw [receiveD_bad H1.out z1]
    clear z1
    go_enter Try.func14, Try.ntmps14
    go_wp2_with (first | (go_at_call 15; refine (refdchk_is n1 _ _ _ _ _ _ _ _ H1 hl).mono ?_; rintro e w1 ⟨rfl, hb⟩; have hz := hb.size; (try simp at hz); obtain ⟨hc, hf, hT1, hT2, hT3, hT4, hz⟩ := bfacts (n := w.heap.size + 4) hb (by first | (simp; done) | (simp; omega) | omega)))
    refine bodyPost_ret (v := .tuple #[devV zeroD, msgV zeroM, .bool false, .int .i64 n1]) ?_ rfl ⟨rfl, by (repeat' (first | (with_reducible exact Below.refl _ _) | (with_reducible assumption) | (with_reducible refine below_run ?_ (by assumption)) | (with_reducible refine below_of_upd ?_ (by assumption) ?_) | (with_reducible refine below_drewN ?_ _) | (with_reducible refine Below.drew ?_) | (with_reducible refine Below.setCell ?_ ?_ _) | (with_reducible refine Below.alloc ?_ ?_ _) | (with_reducible refine below_after ?_ ?_ (by assumption)) | (show _ ≤ _; first | omega | (simp; done) | (simp; omega))))⟩
    simp [results, Try.results14, go_sem, zeroM, zeroD, *]

end Go.Proofs.Ytnckalgljfplhaa
