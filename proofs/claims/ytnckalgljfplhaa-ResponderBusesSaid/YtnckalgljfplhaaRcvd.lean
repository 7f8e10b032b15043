/-
  The contracts of the reference's receiving.
-/
import Derived.Test.YtnckalgljfplhaaAns
import Derived.Deep.CutBlock
import Derived.Outline
namespace Go.Proofs.Ytnckalgljfplhaa
open Go.RowKit

/-- What the reference says of receiving. -/
def RcvdPost (r : Dev × Msg × Bool) (w : World) (e : Ending) (w' : World) : Prop := e = .returned (.tuple #[devV r.1, msgV r.2.1, .bool r.2.2]) ∧ Below w.heap.size w w'

theorem chk_size12 {m : Msg} (h : chk m = 0) (hk : m.kind = 1) : m.dat.size = 12 := chk_size m h hk

set_option maxHeartbeats 1000000 in
set_option maxRecDepth 100000 in
theorem rcvd_seek (id ft ad hr dst src seq par : Int) (lb dat : ByteArray) (mu idf : Bool) (w : World) (hf : Fine ⟨id, ft, ad, lb, hr, mu, idf⟩) (hm : chk ⟨dst, src, seq, 1, par, dat⟩ = 0) (hd : deafD ⟨id, ft, ad, lb, hr, mu, idf⟩ ⟨dst, src, seq, 1, par, dat⟩ = false) :
    Calls Try.prog 40 #[.agg #[.int .u64 id, .int .i64 ft, .int .i64 ad, .string lb, .int .i64 hr, .bool mu, .bool idf], .agg #[.int .u64 dst, .int .u64 src, .int .i64 seq, .int .i64 1, .int .i64 par, .string dat]] w (RcvdPost (recvD ⟨id, ft, ad, lb, hr, mu, idf⟩ ⟨dst, src, seq, 1, par, dat⟩) w) := by
  obtain ⟨f1, f2, f3, f4, f5, f6, f7, f8⟩ := fine_open hf
  have hs : Hid (dat.size = 12) := chk_size12 hm rfl
  have hd' : ¬ (dst ≠ id ∧ dst ≠ 281474976710655) := by simpa [deafD] using hd
  have hrv : recvD ⟨id, ft, ad, lb, hr, mu, idf⟩ ⟨dst, src, seq, 1, par, dat⟩ = (⟨id, ft, ad, lb, hr, mu, idf⟩, (foundD ⟨id, ft, ad, lb, hr, mu, idf⟩ ⟨dst, src, seq, 1, par, dat⟩).1, (foundD ⟨id, ft, ad, lb, hr, mu, idf⟩ ⟨dst, src, seq, 1, par, dat⟩).2) := by
    rw [recvD, if_neg (by rw [hd]; decide), if_pos rfl, foundD]
    split <;> rfl
  rw [hrv]
  obtain ⟨a, q, ha⟩ : ∃ a q, foundD ⟨id, ft, ad, lb, hr, mu, idf⟩ ⟨dst, src, seq, 1, par, dat⟩ = (a, q) := ⟨_, _, rfl⟩
  rw [ha]
  have HA := Lib.hid ha
  clear hf hm hd hrv ha
  obtain ⟨q1, h1⟩ : ∃ q, (dst != id) = q := ⟨_, rfl⟩
  obtain ⟨q2, h2⟩ : ∃ q, (dst != 281474976710655) = q := ⟨_, rfl⟩
  have hq : ¬ (q1 = true ∧ q2 = true) := by
    rw [← h1, ← h2]; simpa using hd'
  clear hd'
  have hq2 : (q1 = false) ∨ (q1 = true ∧ q2 = false) := by
    cases q1 <;> cases q2 <;> simp at hq ⊢
  clear hq
  have g1 : ¬ w.heap.size = w.heap.size + 1 + 1 := by omega
  have g2 : ¬ w.heap.size + 1 + 1 = w.heap.size := by omega
  have g3 : ¬ w.heap.size = w.heap.size + 1 + 1 + 1 := by omega
  have g4 : ¬ w.heap.size + 1 + 1 + 1 = w.heap.size := by omega
  rcases hq2 with rfl | ⟨rfl, rfl⟩
  all_goals
    go_enter Try.func40, Try.ntmps40
    go_wp2_with (go_at_call 65; refine (discovered_any _ _ _ _ _ _ _ _ _ _ _ _ _ f1 f2 hs).mono ?_; rintro e w1 ⟨he, hb⟩; rw [HA.out] at he; subst he)
    have hz := hb.size
    simp at hz
    have kb : Below w.heap.size w (w1.alloc (.cells #[.int .u64 a.dst, .int .u64 a.src, .int .i64 a.seq, .int .i64 a.kind, .int .i64 a.par, .string a.dat] 26)) := by (repeat' (first | (with_reducible exact Below.refl _ _) | (with_reducible assumption) | (with_reducible refine below_run ?_ (by assumption)) | (with_reducible refine below_drewN ?_ _) | (with_reducible refine Below.drew ?_) | (with_reducible refine Below.setCell ?_ ?_ _) | (with_reducible refine Below.alloc ?_ ?_ _) | (with_reducible refine below_after ?_ ?_ (by assumption)) | (show _ ≤ _; first | omega | (simp; done) | (simp; omega))))
    have kd : RowAt (w1.alloc (.cells #[.int .u64 a.dst, .int .u64 a.src, .int .i64 a.seq, .int .i64 a.kind, .int .i64 a.par, .string a.dat] 26)) w.heap.size 28 #[.int .u64 id, .int .i64 ft, .int .i64 ad, .string lb, .int .i64 hr, .bool mu, .bool idf] := by (repeat' (first | (with_reducible assumption) | (with_reducible refine RowAt.drewN ?_ _) | (with_reducible refine RowAt.drew ?_) | (with_reducible refine RowAt.six ?_) | (with_reducible refine RowAt.seven ?_) | ((with_reducible refine RowAt.mk ?_ ?_); (focus (first | rfl | (simp; done))); rfl) | (with_reducible refine RowAt.alloc ?_ _) | (with_reducible refine RowAt.far ?_ ?_) | (with_reducible refine RowAt.run ?_ (by assumption)) | (with_reducible refine RowAt.below ?_ (by assumption) ?_) | (show _ < _; first | omega | (simp; done) | (simp; omega)) | (show ¬ _ = _; first | omega | (simp; done) | (simp; omega)) | exact rfl))
    have kx : RowAt (w1.alloc (.cells #[.int .u64 a.dst, .int .u64 a.src, .int .i64 a.seq, .int .i64 a.kind, .int .i64 a.par, .string a.dat] 26)) (w.heap.size + 1 + 1) 28 #[.int .u64 0, .int .i64 0, .int .i64 0, .string ⟨#[]⟩, .int .i64 0, .bool false, .bool false] := by (repeat' (first | (with_reducible assumption) | (with_reducible refine RowAt.drewN ?_ _) | (with_reducible refine RowAt.drew ?_) | (with_reducible refine RowAt.six ?_) | (with_reducible refine RowAt.seven ?_) | ((with_reducible refine RowAt.mk ?_ ?_); (focus (first | rfl | (simp; done))); rfl) | (with_reducible refine RowAt.alloc ?_ _) | (with_reducible refine RowAt.far ?_ ?_) | (with_reducible refine RowAt.run ?_ (by assumption)) | (with_reducible refine RowAt.below ?_ (by assumption) ?_) | (show _ < _; first | omega | (simp; done) | (simp; omega)) | (show ¬ _ = _; first | omega | (simp; done) | (simp; omega)) | exact rfl))
    have ky : RowAt (w1.alloc (.cells #[.int .u64 a.dst, .int .u64 a.src, .int .i64 a.seq, .int .i64 a.kind, .int .i64 a.par, .string a.dat] 26)) (w.heap.size + 1 + 1 + 1) 26 #[.int .u64 0, .int .u64 0, .int .i64 0, .int .i64 0, .int .i64 0, .string ⟨#[]⟩] := by (repeat' (first | (with_reducible assumption) | (with_reducible refine RowAt.drewN ?_ _) | (with_reducible refine RowAt.drew ?_) | (with_reducible refine RowAt.six ?_) | (with_reducible refine RowAt.seven ?_) | ((with_reducible refine RowAt.mk ?_ ?_); (focus (first | rfl | (simp; done))); rfl) | (with_reducible refine RowAt.alloc ?_ _) | (with_reducible refine RowAt.far ?_ ?_) | (with_reducible refine RowAt.run ?_ (by assumption)) | (with_reducible refine RowAt.below ?_ (by assumption) ?_) | (show _ < _; first | omega | (simp; done) | (simp; omega)) | (show ¬ _ = _; first | omega | (simp; done) | (simp; omega)) | exact rfl))
    have ka : RowAt (w1.alloc (.cells #[.int .u64 a.dst, .int .u64 a.src, .int .i64 a.seq, .int .i64 a.kind, .int .i64 a.par, .string a.dat] 26)) w1.heap.size 26 #[.int .u64 a.dst, .int .u64 a.src, .int .i64 a.seq, .int .i64 a.kind, .int .i64 a.par, .string a.dat] := RowAt.new _ _ _
    generalize w1.alloc (.cells #[.int .u64 a.dst, .int .u64 a.src, .int .i64 a.seq, .int .i64 a.kind, .int .i64 a.par, .string a.dat] 26) = wz at kb kd kx ky ka ⊢
    clear hb
    obtain ⟨g, hg⟩ : ∃ g, w1.heap.size = g := ⟨_, rfl⟩
    rw [hg] at ka hz
    have g5 : ¬ g = w.heap.size + 1 + 1 := by omega
    have g6 : ¬ w.heap.size + 1 + 1 = g := by omega
    have g7 : ¬ g = w.heap.size + 1 + 1 + 1 := by omega
    have g8 : ¬ w.heap.size + 1 + 1 + 1 = g := by omega
    obtain ⟨d1, d2, d3, d4, d5, d6⟩ := row_facts kd
    obtain ⟨x1, x2, x3, x4, x5, x6⟩ := row_facts kx
    obtain ⟨y1, y2, y3, y4, y5, y6⟩ := row_facts ky
    obtain ⟨a1, a2, a3, a4, a5, a6⟩ := row_facts ka
    go_region_held3 (fun w' => w'.cell? ⟨w.heap.size, 0, none⟩ = some (.int .u64 id) ∧ w'.cell? ⟨w.heap.size, 1, none⟩ = some (.int .i64 ft) ∧ w'.cell? ⟨w.heap.size, 2, none⟩ = some (.int .i64 ad) ∧ w'.cell? ⟨w.heap.size, 3, none⟩ = some (.string lb) ∧ w'.cell? ⟨w.heap.size, 4, none⟩ = some (.int .i64 hr) ∧ w'.cell? ⟨w.heap.size, 5, none⟩ = some (.bool mu) ∧ w'.cell? ⟨w.heap.size, 6, none⟩ = some (.bool idf) ∧ w'.cell? ⟨g, 0, none⟩ = some (.int .u64 a.dst) ∧ w'.cell? ⟨g, 1, none⟩ = some (.int .u64 a.src) ∧ w'.cell? ⟨g, 2, none⟩ = some (.int .i64 a.seq) ∧ w'.cell? ⟨g, 3, none⟩ = some (.int .i64 a.kind) ∧ w'.cell? ⟨g, 4, none⟩ = some (.int .i64 a.par) ∧ w'.cell? ⟨g, 5, none⟩ = some (.string a.dat)) (go_keep) (fail)
    all_goals (go_wp2)
    all_goals (refine bodyPost_ret (v := .tuple #[devV ⟨id, ft, ad, lb, hr, mu, idf⟩, msgV a, .bool q]) ?_ rfl ⟨rfl, by (repeat' (first | (with_reducible exact Below.refl _ _) | (with_reducible assumption) | (with_reducible refine below_run ?_ (by assumption)) | (with_reducible refine below_drewN ?_ _) | (with_reducible refine Below.drew ?_) | (with_reducible refine Below.setCell ?_ ?_ _) | (with_reducible refine Below.alloc ?_ ?_ _) | (with_reducible refine below_after ?_ ?_ (by assumption)) | (show _ ≤ _; first | omega | (simp; done) | (simp; omega))))⟩; simp [results, Try.results40, go_sem, *])

end Go.Proofs.Ytnckalgljfplhaa
