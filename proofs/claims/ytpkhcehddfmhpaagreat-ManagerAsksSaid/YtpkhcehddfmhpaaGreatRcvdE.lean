/-
  The contracts of the reference's receiving.
  The contracts of the reference's receiving: what a device does; a message that is not for it.
  The contract of the reference's receiving, all cases.
-/
import Derived.Test.YtpkhcehddfmhpaaGreatAns
import Derived.Deep.CutBlock
import Derived.Outline
import Derived.Test.YtpkhcehddfmhpaaGreatRecvD
namespace Go.Proofs.YtpkhcehddfmhpaaGreat
open Go.RowKit

/-- What the reference says of receiving. -/
def RcvdPost (r : Dev × Msg × Bool) (w : World) (e : Ending) (w' : World) : Prop := e = .returned (.tuple #[devV r.1, msgV r.2.1, .bool r.2.2]) ∧ Below w.heap.size w w'

theorem chk_size12 {m : Msg} (h : chk m = 0) (hk : m.kind = 1) : m.dat.size = 12 := chk_size m h hk

set_option maxHeartbeats 1000000 in
set_option maxRecDepth 100000 in
theorem rcvd_seek (id ft ad hr dst src seq par : Int) (lb dat : ByteArray) (mu idf : Bool) (w : World) (hf : Fine ⟨id, ft, ad, lb, hr, mu, idf⟩) (hm : chk ⟨dst, src, seq, 1, par, dat⟩ = 0) (hd : deafD ⟨id, ft, ad, lb, hr, mu, idf⟩ ⟨dst, src, seq, 1, par, dat⟩ = false) :
    Calls Tryz.prog 133 #[.agg #[.int .u64 id, .int .i64 ft, .int .i64 ad, .string lb, .int .i64 hr, .bool mu, .bool idf], .agg #[.int .u64 dst, .int .u64 src, .int .i64 seq, .int .i64 1, .int .i64 par, .string dat]] w (RcvdPost (recvD ⟨id, ft, ad, lb, hr, mu, idf⟩ ⟨dst, src, seq, 1, par, dat⟩) w) := by
  obtain ⟨f1, f2, f3, f4, f5, f6, f7, f8⟩ := fine_open hf
  have hs : Hid (dat.size = 12) := chk_size12 hm rfl
  have hd' : ¬ (dst ≠ id ∧ dst ≠ 281474976710655) := by simpa [deafD] using hd
  have hrv : recvD ⟨id, ft, ad, lb, hr, mu, idf⟩ ⟨dst, src, seq, 1, par, dat⟩ = (⟨id, ft, ad, lb, hr, mu, idf⟩, (foundD ⟨id, ft, ad, lb, hr, mu, idf⟩ ⟨dst, src, seq, 1, par, dat⟩).1, (foundD ⟨id, ft, ad, lb, hr, mu, idf⟩ ⟨dst, src, seq, 1, par, dat⟩).2) := by
    rw [recvD, if_neg (by rw [hd]; decide), if_pos rfl, foundD]
    split <;> rfl
  rw [hrv]
  obtain ⟨a, q, ha⟩ : ∃ a q, foundD ⟨id, ft, ad, lb, hr, mu, idf⟩ ⟨dst, src, seq, 1, par, dat⟩ = (a, q) := ⟨_, _, rfl⟩
  rw [ha]
  have HA := Lib.hid ha
  clear hf hm hd hrv ha
  obtain ⟨q1, h1⟩ : ∃ q, (dst != id) = q := ⟨_, rfl⟩
  obtain ⟨q2, h2⟩ : ∃ q, (dst != 281474976710655) = q := ⟨_, rfl⟩
  have hq : ¬ (q1 = true ∧ q2 = true) := by
    rw [← h1, ← h2]; simpa using hd'
  clear hd'
  have hq2 : (q1 = false) ∨ (q1 = true ∧ q2 = false) := by
    cases q1 <;> cases q2 <;> simp at hq ⊢
  clear hq
  have g1 : ¬ w.heap.size = w.heap.size + 1 + 1 := by omega
  have g2 : ¬ w.heap.size + 1 + 1 = w.heap.size := by omega
  have g3 : ¬ w.heap.size = w.heap.size + 1 + 1 + 1 := by omega
  have g4 : ¬ w.heap.size + 1 + 1 + 1 = w.heap.size := by omega
  rcases hq2 with rfl | ⟨rfl, rfl⟩
  all_goals
    go_enter Tryz.func133, Tryz.ntmps133
    go_wp2_with (go_at_call 164; refine (discovered_any _ _ _ _ _ _ _ _ _ _ _ _ _ f1 f2 hs).mono ?_; rintro e w1 ⟨he, hb⟩; rw [HA.out] at he; subst he)
    have hz := hb.size
    simp at hz
    have kb : Below w.heap.size w (w1.alloc (.cells #[.int .u64 a.dst, .int .u64 a.src, .int .i64 a.seq, .int .i64 a.kind, .int .i64 a.par, .string a.dat] 52)) := by (repeat' (first | (with_reducible exact Below.refl _ _) | (with_reducible assumption) | (with_reducible refine below_run ?_ (by assumption)) | (with_reducible refine below_of_upd ?_ (by assumption) ?_) | (with_reducible refine below_drewN ?_ _) | (with_reducible refine Below.drew ?_) | (with_reducible refine Below.setCell ?_ ?_ _) | (with_reducible refine Below.alloc ?_ ?_ _) | (with_reducible refine below_after ?_ ?_ (by assumption)) | (show _ ≤ _; first | omega | (simp; done) | (simp; omega))))
    have kd : RowAt (w1.alloc (.cells #[.int .u64 a.dst, .int .u64 a.src, .int .i64 a.seq, .int .i64 a.kind, .int .i64 a.par, .string a.dat] 52)) w.heap.size 92 #[.int .u64 id, .int .i64 ft, .int .i64 ad, .string lb, .int .i64 hr, .bool mu, .bool idf] := by (repeat' (first | (with_reducible assumption) | (with_reducible refine RowAt.drewN ?_ _) | (with_reducible refine RowAt.drew ?_) | (with_reducible apply RowAt.six) | (with_reducible apply RowAt.seven) | ((with_reducible refine RowAt.mk ?_ ?_); (focus (first | rfl | (simp; done))); rfl) | (with_reducible refine RowAt.alloc ?_ _) | (with_reducible refine RowAt.far ?_ ?_) | (with_reducible refine RowAt.run ?_ (by assumption)) | (with_reducible refine RowAt.below ?_ (by assumption) ?_) | (with_reducible refine RowAt.upd ?_ (by assumption) ?_) | (show _ < _; first | omega | (simp; done) | (simp; omega)) | (show ¬ _ = _; first | omega | (simp; done) | (simp; omega)) | exact rfl))
    have kx : RowAt (w1.alloc (.cells #[.int .u64 a.dst, .int .u64 a.src, .int .i64 a.seq, .int .i64 a.kind, .int .i64 a.par, .string a.dat] 52)) (w.heap.size + 1 + 1) 92 #[.int .u64 0, .int .i64 0, .int .i64 0, .string ⟨#[]⟩, .int .i64 0, .bool false, .bool false] := by (repeat' (first | (with_reducible assumption) | (with_reducible refine RowAt.drewN ?_ _) | (with_reducible refine RowAt.drew ?_) | (with_reducible apply RowAt.six) | (with_reducible apply RowAt.seven) | ((with_reducible refine RowAt.mk ?_ ?_); (focus (first | rfl | (simp; done))); rfl) | (with_reducible refine RowAt.alloc ?_ _) | (with_reducible refine RowAt.far ?_ ?_) | (with_reducible refine RowAt.run ?_ (by assumption)) | (with_reducible refine RowAt.below ?_ (by assumption) ?_) | (with_reducible refine RowAt.upd ?_ (by assumption) ?_) | (show _ < _; first | omega | (simp; done) | (simp; omega)) | (show ¬ _ = _; first | omega | (simp; done) | (simp; omega)) | exact rfl))
    have ky : RowAt (w1.alloc (.cells #[.int .u64 a.dst, .int .u64 a.src, .int .i64 a.seq, .int .i64 a.kind, .int .i64 a.par, .string a.dat] 52)) (w.heap.size + 1 + 1 + 1) 52 #[.int .u64 0, .int .u64 0, .int .i64 0, .int .i64 0, .int .i64 0, .string ⟨#[]⟩] := by (repeat' (first | (with_reducible assumption) | (with_reducible refine RowAt.drewN ?_ _) | (with_reducible refine RowAt.drew ?_) | (with_reducible apply RowAt.six) | (with_reducible apply RowAt.seven) | ((with_reducible refine RowAt.mk ?_ ?_); (focus (first | rfl | (simp; done))); rfl) | (with_reducible refine RowAt.alloc ?_ _) | (with_reducible refine RowAt.far ?_ ?_) | (with_reducible refine RowAt.run ?_ (by assumption)) | (with_reducible refine RowAt.below ?_ (by assumption) ?_) | (with_reducible refine RowAt.upd ?_ (by assumption) ?_) | (show _ < _; first | omega | (simp; done) | (simp; omega)) | (show ¬ _ = _; first | omega | (simp; done) | (simp; omega)) | exact rfl))
    have ka : RowAt (w1.alloc (.cells #[.int .u64 a.dst, .int .u64 a.src, .int .i64 a.seq, .int .i64 a.kind, .int .i64 a.par, .string a.dat] 52)) w1.heap.size 52 #[.int .u64 a.dst, .int .u64 a.src, .int .i64 a.seq, .int .i64 a.kind, .int .i64 a.par, .string a.dat] := RowAt.new _ _ _
    generalize w1.alloc (.cells #[.int .u64 a.dst, .int .u64 a.src, .int .i64 a.seq, .int .i64 a.kind, .int .i64 a.par, .string a.dat] 52) = wz at kb kd kx ky ka ⊢
    clear hb
    obtain ⟨g, hg⟩ : ∃ g, w1.heap.size = g := ⟨_, rfl⟩
    rw [hg] at ka hz
    have g5 : ¬ g = w.heap.size + 1 + 1 := by omega
    have g6 : ¬ w.heap.size + 1 + 1 = g := by omega
    have g7 : ¬ g = w.heap.size + 1 + 1 + 1 := by omega
    have g8 : ¬ w.heap.size + 1 + 1 + 1 = g := by omega
    obtain ⟨d1, d2, d3, d4, d5, d6⟩ := row_facts kd
    obtain ⟨x1, x2, x3, x4, x5, x6⟩ := row_facts kx
    obtain ⟨y1, y2, y3, y4, y5, y6⟩ := row_facts ky
    obtain ⟨a1, a2, a3, a4, a5, a6⟩ := row_facts ka
    go_region_held3 (fun w' => w'.cell? ⟨w.heap.size, 0, none⟩ = some (.int .u64 id) ∧ w'.cell? ⟨w.heap.size, 1, none⟩ = some (.int .i64 ft) ∧ w'.cell? ⟨w.heap.size, 2, none⟩ = some (.int .i64 ad) ∧ w'.cell? ⟨w.heap.size, 3, none⟩ = some (.string lb) ∧ w'.cell? ⟨w.heap.size, 4, none⟩ = some (.int .i64 hr) ∧ w'.cell? ⟨w.heap.size, 5, none⟩ = some (.bool mu) ∧ w'.cell? ⟨w.heap.size, 6, none⟩ = some (.bool idf) ∧ w'.cell? ⟨g, 0, none⟩ = some (.int .u64 a.dst) ∧ w'.cell? ⟨g, 1, none⟩ = some (.int .u64 a.src) ∧ w'.cell? ⟨g, 2, none⟩ = some (.int .i64 a.seq) ∧ w'.cell? ⟨g, 3, none⟩ = some (.int .i64 a.kind) ∧ w'.cell? ⟨g, 4, none⟩ = some (.int .i64 a.par) ∧ w'.cell? ⟨g, 5, none⟩ = some (.string a.dat)) (go_keep) (fail)
    all_goals (go_wp2)
    all_goals (refine bodyPost_ret (v := .tuple #[devV ⟨id, ft, ad, lb, hr, mu, idf⟩, msgV a, .bool q]) ?_ rfl ⟨rfl, by (repeat' (first | (with_reducible exact Below.refl _ _) | (with_reducible assumption) | (with_reducible refine below_run ?_ (by assumption)) | (with_reducible refine below_of_upd ?_ (by assumption) ?_) | (with_reducible refine below_drewN ?_ _) | (with_reducible refine Below.drew ?_) | (with_reducible refine Below.setCell ?_ ?_ _) | (with_reducible refine Below.alloc ?_ ?_ _) | (with_reducible refine below_after ?_ ?_ (by assumption)) | (show _ ≤ _; first | omega | (simp; done) | (simp; omega))))⟩; simp [results, Tryz.results133, go_sem, *])

end Go.Proofs.YtpkhcehddfmhpaaGreat

namespace Go.Proofs.YtpkhcehddfmhpaaGreat
open Go.RowKit

/-- The cells of a device, spelled out. -/
theorem devA_eq (d : Dev) : devA d = #[.int .u64 d.id, .int .i64 d.ft, .int .i64 d.ad, .string d.lb, .int .i64 d.hr, .bool d.mu, .bool d.idf] := rfl

set_option maxHeartbeats 1000000 in
set_option maxRecDepth 100000 in
theorem rcvd_act (id ft ad hr dst src seq kind par : Int) (lb dat : ByteArray) (mu idf : Bool) (w : World) (hf : Fine ⟨id, ft, ad, lb, hr, mu, idf⟩) (hc : chkD ⟨id, ft, ad, lb, hr, mu, idf⟩ = 0) (hd : deafD ⟨id, ft, ad, lb, hr, mu, idf⟩ ⟨dst, src, seq, kind, par, dat⟩ = false) (hk : kind = 2 ∨ kind = 3 ∨ kind = 4 ∨ kind = 5) (hds : dat.size ≤ 9223372036854775807) :
    Calls Tryz.prog 133 #[.agg #[.int .u64 id, .int .i64 ft, .int .i64 ad, .string lb, .int .i64 hr, .bool mu, .bool idf], .agg #[.int .u64 dst, .int .u64 src, .int .i64 seq, .int .i64 kind, .int .i64 par, .string dat]] w (RcvdPost (recvD ⟨id, ft, ad, lb, hr, mu, idf⟩ ⟨dst, src, seq, kind, par, dat⟩) w) := by
  obtain ⟨f1, f2, f3, f4, f5, f6, f7, f8⟩ := fine_open hf
  have hd' : ¬ (dst ≠ id ∧ dst ≠ 281474976710655) := by
    intro h
    have : deafD ⟨id, ft, ad, lb, hr, mu, idf⟩ ⟨dst, src, seq, kind, par, dat⟩ = true := by simp [deafD]; exact .inl h
    rw [this] at hd; cases hd
  obtain ⟨d', s, r, hdone⟩ : ∃ d' s r, doneD ⟨id, ft, ad, lb, hr, mu, idf⟩ ⟨dst, src, seq, kind, par, dat⟩ = (d', s, r) := ⟨_, _, _, rfl⟩
  have hrv : recvD ⟨id, ft, ad, lb, hr, mu, idf⟩ ⟨dst, src, seq, kind, par, dat⟩ = if dst = 281474976710655 then (d', zeroM, false) else (d', answered ⟨dst, src, seq, kind, par, dat⟩ id s r, true) := by
    rw [recvD, if_neg (by rw [hd]; decide), if_neg (by show ¬ kind = 1; omega), hdone]
  have HV := Lib.hid hrv
  have HDONE := Lib.hid hdone
  have hid' : d'.id = id := done_id hdone
  have hreason := done_reason hdone
  have HC := Lib.hid hc
  have k1 : (kind == 1) = false := by simp; omega
  have k6 : (kind == 6) = false := by simp; omega
  have k7 : (kind == 7) = false := by simp; omega
  obtain ⟨p2, h2⟩ : ∃ q, (kind == 2) = q := ⟨_, rfl⟩
  obtain ⟨p3, h3⟩ : ∃ q, (kind == 3) = q := ⟨_, rfl⟩
  obtain ⟨p4, h4⟩ : ∃ q, (kind == 4) = q := ⟨_, rfl⟩
  obtain ⟨p5, h5⟩ : ∃ q, (kind == 5) = q := ⟨_, rfl⟩
  have HK := Lib.hid hk
  have HF := Lib.hid hf
  clear hf hd hrv hdone hc hk
  obtain ⟨q1, h1⟩ : ∃ q, (dst != id) = q := ⟨_, rfl⟩
  obtain ⟨q2, h22⟩ : ∃ q, (dst != 281474976710655) = q := ⟨_, rfl⟩
  have hq : ¬ (q1 = true ∧ q2 = true) := by
    rw [← h1, ← h22]; simpa using hd'
  clear hd'
  have hq2 : (q1 = false) ∨ (q1 = true ∧ q2 = false) := by
    cases q1 <;> cases q2 <;> simp at hq ⊢
  clear hq
  have g1 : ¬ w.heap.size = w.heap.size + 1 + 1 := by omega
  have g2 : ¬ w.heap.size + 1 + 1 = w.heap.size := by omega
  have g3 : ¬ w.heap.size = w.heap.size + 1 + 1 + 1 := by omega
  have g4 : ¬ w.heap.size + 1 + 1 + 1 = w.heap.size := by omega
  rcases hq2 with rfl | ⟨rfl, rfl⟩
  all_goals
    go_enter Tryz.func133, Tryz.ntmps133
    go_upto_block 0 with fail
    go_cut [7, 8] (fun s7 s8 wx => s7 = .string s ∧ s8 = .int .i64 r ∧ RowAt wx w.heap.size 92 #[.int .u64 d'.id, .int .i64 d'.ft, .int .i64 d'.ad, .string d'.lb, .int .i64 d'.hr, .bool d'.mu, .bool d'.idf] ∧ RowAt wx (w.heap.size + 1) 52 #[.int .u64 dst, .int .u64 src, .int .i64 seq, .int .i64 kind, .int .i64 par, .string dat] ∧ RowAt wx (w.heap.size + 1 + 1) 92 #[.int .u64 0, .int .i64 0, .int .i64 0, .string ⟨#[]⟩, .int .i64 0, .bool false, .bool false] ∧ RowAt wx (w.heap.size + 1 + 1 + 1) 52 #[.int .u64 0, .int .u64 0, .int .i64 0, .int .i64 0, .int .i64 0, .string ⟨#[]⟩] ∧ Below w.heap.size w wx)
    case first =>
      go_wp2_with (first | (go_at_call 165; refine (shown_any _ _ _ _ _ _ _ _ _ HF.out).mono ?_; rintro e w1 ⟨s', n, rfl, hrr, hb⟩; have hz := hb.size; simp at hz; obtain ⟨hc, hf, hT1, hT2, hT3, hT4, hz⟩ := bfacts (n := w.heap.size + 4) hb (by first | (simp; done) | (simp; omega) | omega)) | (go_at_call 166; refine (put_any _ _ _ _ _ _ _ _ _ _ HF.out hds).mono ?_; rintro e w1 ⟨d2, n, rfl, hrr, hb⟩; have hz := hb.size; simp at hz; obtain ⟨hc, hf, hT1, hT2, hT3, hT4, hz⟩ := bfacts (n := w.heap.size + 4) hb (by first | (simp; done) | (simp; omega) | omega)))
      all_goals go_meet
      · have e : kind = 2 := eq_of_beq (h2.trans (by assumption))
        have hd := HDONE.out
        rw [doneD, if_pos e] at hd
        simp only [Prod.mk.injEq] at hd
        obtain ⟨rfl, rfl, rfl⟩ := hd
        exact ⟨rfl, rfl, by (repeat' (first | (with_reducible assumption) | (with_reducible refine RowAt.drewN ?_ _) | (with_reducible refine RowAt.drew ?_) | (with_reducible apply RowAt.six) | (with_reducible apply RowAt.seven) | ((with_reducible refine RowAt.mk ?_ ?_); (focus (first | rfl | (simp; done))); rfl) | (with_reducible refine RowAt.alloc ?_ _) | (with_reducible refine RowAt.far ?_ ?_) | (with_reducible refine RowAt.run ?_ (by assumption)) | (with_reducible refine RowAt.below ?_ (by assumption) ?_) | (with_reducible refine RowAt.upd ?_ (by assumption) ?_) | (show _ < _; first | omega | (simp; done) | (simp; omega)) | (show ¬ _ = _; first | omega | (simp; done) | (simp; omega)) | exact rfl)), by (repeat' (first | (with_reducible assumption) | (with_reducible refine RowAt.drewN ?_ _) | (with_reducible refine RowAt.drew ?_) | (with_reducible apply RowAt.six) | (with_reducible apply RowAt.seven) | ((with_reducible refine RowAt.mk ?_ ?_); (focus (first | rfl | (simp; done))); rfl) | (with_reducible refine RowAt.alloc ?_ _) | (with_reducible refine RowAt.far ?_ ?_) | (with_reducible refine RowAt.run ?_ (by assumption)) | (with_reducible refine RowAt.below ?_ (by assumption) ?_) | (with_reducible refine RowAt.upd ?_ (by assumption) ?_) | (show _ < _; first | omega | (simp; done) | (simp; omega)) | (show ¬ _ = _; first | omega | (simp; done) | (simp; omega)) | exact rfl)), by (repeat' (first | (with_reducible assumption) | (with_reducible refine RowAt.drewN ?_ _) | (with_reducible refine RowAt.drew ?_) | (with_reducible apply RowAt.six) | (with_reducible apply RowAt.seven) | ((with_reducible refine RowAt.mk ?_ ?_); (focus (first | rfl | (simp; done))); rfl) | (with_reducible refine RowAt.alloc ?_ _) | (with_reducible refine RowAt.far ?_ ?_) | (with_reducible refine RowAt.run ?_ (by assumption)) | (with_reducible refine RowAt.below ?_ (by assumption) ?_) | (with_reducible refine RowAt.upd ?_ (by assumption) ?_) | (show _ < _; first | omega | (simp; done) | (simp; omega)) | (show ¬ _ = _; first | omega | (simp; done) | (simp; omega)) | exact rfl)), by (repeat' (first | (with_reducible assumption) | (with_reducible refine RowAt.drewN ?_ _) | (with_reducible refine RowAt.drew ?_) | (with_reducible apply RowAt.six) | (with_reducible apply RowAt.seven) | ((with_reducible refine RowAt.mk ?_ ?_); (focus (first | rfl | (simp; done))); rfl) | (with_reducible refine RowAt.alloc ?_ _) | (with_reducible refine RowAt.far ?_ ?_) | (with_reducible refine RowAt.run ?_ (by assumption)) | (with_reducible refine RowAt.below ?_ (by assumption) ?_) | (with_reducible refine RowAt.upd ?_ (by assumption) ?_) | (show _ < _; first | omega | (simp; done) | (simp; omega)) | (show ¬ _ = _; first | omega | (simp; done) | (simp; omega)) | exact rfl)), by (repeat' (first | (with_reducible exact Below.refl _ _) | (with_reducible assumption) | (with_reducible refine below_run ?_ (by assumption)) | (with_reducible refine below_of_upd ?_ (by assumption) ?_) | (with_reducible refine below_drewN ?_ _) | (with_reducible refine Below.drew ?_) | (with_reducible refine Below.setCell ?_ ?_ _) | (with_reducible refine Below.alloc ?_ ?_ _) | (with_reducible refine below_after ?_ ?_ (by assumption)) | (show _ ≤ _; first | omega | (simp; done) | (simp; omega))))⟩
      · have e2 : kind ≠ 2 := ne_of_beq (h2.trans (by assumption))
        have e : kind = 3 := eq_of_beq (h3.trans (by assumption))
        have hd := HDONE.out
        rw [doneD, if_neg e2, if_pos e] at hd
        simp only [Prod.mk.injEq] at hd
        obtain ⟨rfl, rfl, rfl⟩ := hd
        exact ⟨rfl, rfl, by (repeat' (first | (with_reducible assumption) | (with_reducible refine RowAt.drewN ?_ _) | (with_reducible refine RowAt.drew ?_) | (with_reducible apply RowAt.six) | (with_reducible apply RowAt.seven) | ((with_reducible refine RowAt.mk ?_ ?_); (focus (first | rfl | (simp; done))); rfl) | (with_reducible refine RowAt.alloc ?_ _) | (with_reducible refine RowAt.far ?_ ?_) | (with_reducible refine RowAt.run ?_ (by assumption)) | (with_reducible refine RowAt.below ?_ (by assumption) ?_) | (with_reducible refine RowAt.upd ?_ (by assumption) ?_) | (show _ < _; first | omega | (simp; done) | (simp; omega)) | (show ¬ _ = _; first | omega | (simp; done) | (simp; omega)) | exact rfl)), by (repeat' (first | (with_reducible assumption) | (with_reducible refine RowAt.drewN ?_ _) | (with_reducible refine RowAt.drew ?_) | (with_reducible apply RowAt.six) | (with_reducible apply RowAt.seven) | ((with_reducible refine RowAt.mk ?_ ?_); (focus (first | rfl | (simp; done))); rfl) | (with_reducible refine RowAt.alloc ?_ _) | (with_reducible refine RowAt.far ?_ ?_) | (with_reducible refine RowAt.run ?_ (by assumption)) | (with_reducible refine RowAt.below ?_ (by assumption) ?_) | (with_reducible refine RowAt.upd ?_ (by assumption) ?_) | (show _ < _; first | omega | (simp; done) | (simp; omega)) | (show ¬ _ = _; first | omega | (simp; done) | (simp; omega)) | exact rfl)), by (repeat' (first | (with_reducible assumption) | (with_reducible refine RowAt.drewN ?_ _) | (with_reducible refine RowAt.drew ?_) | (with_reducible apply RowAt.six) | (with_reducible apply RowAt.seven) | ((with_reducible refine RowAt.mk ?_ ?_); (focus (first | rfl | (simp; done))); rfl) | (with_reducible refine RowAt.alloc ?_ _) | (with_reducible refine RowAt.far ?_ ?_) | (with_reducible refine RowAt.run ?_ (by assumption)) | (with_reducible refine RowAt.below ?_ (by assumption) ?_) | (with_reducible refine RowAt.upd ?_ (by assumption) ?_) | (show _ < _; first | omega | (simp; done) | (simp; omega)) | (show ¬ _ = _; first | omega | (simp; done) | (simp; omega)) | exact rfl)), by (repeat' (first | (with_reducible assumption) | (with_reducible refine RowAt.drewN ?_ _) | (with_reducible refine RowAt.drew ?_) | (with_reducible apply RowAt.six) | (with_reducible apply RowAt.seven) | ((with_reducible refine RowAt.mk ?_ ?_); (focus (first | rfl | (simp; done))); rfl) | (with_reducible refine RowAt.alloc ?_ _) | (with_reducible refine RowAt.far ?_ ?_) | (with_reducible refine RowAt.run ?_ (by assumption)) | (with_reducible refine RowAt.below ?_ (by assumption) ?_) | (with_reducible refine RowAt.upd ?_ (by assumption) ?_) | (show _ < _; first | omega | (simp; done) | (simp; omega)) | (show ¬ _ = _; first | omega | (simp; done) | (simp; omega)) | exact rfl)), by (repeat' (first | (with_reducible exact Below.refl _ _) | (with_reducible assumption) | (with_reducible refine below_run ?_ (by assumption)) | (with_reducible refine below_of_upd ?_ (by assumption) ?_) | (with_reducible refine below_drewN ?_ _) | (with_reducible refine Below.drew ?_) | (with_reducible refine Below.setCell ?_ ?_ _) | (with_reducible refine Below.alloc ?_ ?_ _) | (with_reducible refine below_after ?_ ?_ (by assumption)) | (show _ ≤ _; first | omega | (simp; done) | (simp; omega))))⟩
      · have e2 : kind ≠ 2 := ne_of_beq (h2.trans (by assumption))
        have e3 : kind ≠ 3 := ne_of_beq (h3.trans (by assumption))
        have e : kind = 4 := eq_of_beq (h4.trans (by assumption))
        have hd := HDONE.out
        rw [doneD, if_neg e2, if_neg e3, if_pos e, hrr.out] at hd
        simp only [Prod.mk.injEq] at hd
        obtain ⟨rfl, rfl, rfl⟩ := hd
        exact ⟨rfl, rfl, by (repeat' (first | (with_reducible assumption) | (with_reducible refine RowAt.drewN ?_ _) | (with_reducible refine RowAt.drew ?_) | (with_reducible apply RowAt.six) | (with_reducible apply RowAt.seven) | ((with_reducible refine RowAt.mk ?_ ?_); (focus (first | rfl | (simp; done))); rfl) | (with_reducible refine RowAt.alloc ?_ _) | (with_reducible refine RowAt.far ?_ ?_) | (with_reducible refine RowAt.run ?_ (by assumption)) | (with_reducible refine RowAt.below ?_ (by assumption) ?_) | (with_reducible refine RowAt.upd ?_ (by assumption) ?_) | (show _ < _; first | omega | (simp; done) | (simp; omega)) | (show ¬ _ = _; first | omega | (simp; done) | (simp; omega)) | exact rfl)), by (repeat' (first | (with_reducible assumption) | (with_reducible refine RowAt.drewN ?_ _) | (with_reducible refine RowAt.drew ?_) | (with_reducible apply RowAt.six) | (with_reducible apply RowAt.seven) | ((with_reducible refine RowAt.mk ?_ ?_); (focus (first | rfl | (simp; done))); rfl) | (with_reducible refine RowAt.alloc ?_ _) | (with_reducible refine RowAt.far ?_ ?_) | (with_reducible refine RowAt.run ?_ (by assumption)) | (with_reducible refine RowAt.below ?_ (by assumption) ?_) | (with_reducible refine RowAt.upd ?_ (by assumption) ?_) | (show _ < _; first | omega | (simp; done) | (simp; omega)) | (show ¬ _ = _; first | omega | (simp; done) | (simp; omega)) | exact rfl)), by (repeat' (first | (with_reducible assumption) | (with_reducible refine RowAt.drewN ?_ _) | (with_reducible refine RowAt.drew ?_) | (with_reducible apply RowAt.six) | (with_reducible apply RowAt.seven) | ((with_reducible refine RowAt.mk ?_ ?_); (focus (first | rfl | (simp; done))); rfl) | (with_reducible refine RowAt.alloc ?_ _) | (with_reducible refine RowAt.far ?_ ?_) | (with_reducible refine RowAt.run ?_ (by assumption)) | (with_reducible refine RowAt.below ?_ (by assumption) ?_) | (with_reducible refine RowAt.upd ?_ (by assumption) ?_) | (show _ < _; first | omega | (simp; done) | (simp; omega)) | (show ¬ _ = _; first | omega | (simp; done) | (simp; omega)) | exact rfl)), by (repeat' (first | (with_reducible assumption) | (with_reducible refine RowAt.drewN ?_ _) | (with_reducible refine RowAt.drew ?_) | (with_reducible apply RowAt.six) | (with_reducible apply RowAt.seven) | ((with_reducible refine RowAt.mk ?_ ?_); (focus (first | rfl | (simp; done))); rfl) | (with_reducible refine RowAt.alloc ?_ _) | (with_reducible refine RowAt.far ?_ ?_) | (with_reducible refine RowAt.run ?_ (by assumption)) | (with_reducible refine RowAt.below ?_ (by assumption) ?_) | (with_reducible refine RowAt.upd ?_ (by assumption) ?_) | (show _ < _; first | omega | (simp; done) | (simp; omega)) | (show ¬ _ = _; first | omega | (simp; done) | (simp; omega)) | exact rfl)), by (repeat' (first | (with_reducible exact Below.refl _ _) | (with_reducible assumption) | (with_reducible refine below_run ?_ (by assumption)) | (with_reducible refine below_of_upd ?_ (by assumption) ?_) | (with_reducible refine below_drewN ?_ _) | (with_reducible refine Below.drew ?_) | (with_reducible refine Below.setCell ?_ ?_ _) | (with_reducible refine Below.alloc ?_ ?_ _) | (with_reducible refine below_after ?_ ?_ (by assumption)) | (show _ ≤ _; first | omega | (simp; done) | (simp; omega))))⟩
      · have e2 : kind ≠ 2 := ne_of_beq (h2.trans (by assumption))
        have e3 : kind ≠ 3 := ne_of_beq (h3.trans (by assumption))
        have e4 : kind ≠ 4 := ne_of_beq (h4.trans (by assumption))
        have e : kind = 5 := eq_of_beq (h5.trans (by assumption))
        have hd := HDONE.out
        rw [doneD, if_neg e2, if_neg e3, if_neg e4, if_pos e, hrr.out] at hd
        simp only [Prod.mk.injEq] at hd
        obtain ⟨rfl, rfl, rfl⟩ := hd
        exact ⟨rfl, rfl, by (repeat' (first | (with_reducible assumption) | (with_reducible refine RowAt.drewN ?_ _) | (with_reducible refine RowAt.drew ?_) | (with_reducible apply RowAt.six) | (with_reducible apply RowAt.seven) | ((with_reducible refine RowAt.mk ?_ ?_); (focus (first | rfl | (simp; done))); rfl) | (with_reducible refine RowAt.alloc ?_ _) | (with_reducible refine RowAt.far ?_ ?_) | (with_reducible refine RowAt.run ?_ (by assumption)) | (with_reducible refine RowAt.below ?_ (by assumption) ?_) | (with_reducible refine RowAt.upd ?_ (by assumption) ?_) | (show _ < _; first | omega | (simp; done) | (simp; omega)) | (show ¬ _ = _; first | omega | (simp; done) | (simp; omega)) | exact rfl)), by (repeat' (first | (with_reducible assumption) | (with_reducible refine RowAt.drewN ?_ _) | (with_reducible refine RowAt.drew ?_) | (with_reducible apply RowAt.six) | (with_reducible apply RowAt.seven) | ((with_reducible refine RowAt.mk ?_ ?_); (focus (first | rfl | (simp; done))); rfl) | (with_reducible refine RowAt.alloc ?_ _) | (with_reducible refine RowAt.far ?_ ?_) | (with_reducible refine RowAt.run ?_ (by assumption)) | (with_reducible refine RowAt.below ?_ (by assumption) ?_) | (with_reducible refine RowAt.upd ?_ (by assumption) ?_) | (show _ < _; first | omega | (simp; done) | (simp; omega)) | (show ¬ _ = _; first | omega | (simp; done) | (simp; omega)) | exact rfl)), by (repeat' (first | (with_reducible assumption) | (with_reducible refine RowAt.drewN ?_ _) | (with_reducible refine RowAt.drew ?_) | (with_reducible apply RowAt.six) | (with_reducible apply RowAt.seven) | ((with_reducible refine RowAt.mk ?_ ?_); (focus (first | rfl | (simp; done))); rfl) | (with_reducible refine RowAt.alloc ?_ _) | (with_reducible refine RowAt.far ?_ ?_) | (with_reducible refine RowAt.run ?_ (by assumption)) | (with_reducible refine RowAt.below ?_ (by assumption) ?_) | (with_reducible refine RowAt.upd ?_ (by assumption) ?_) | (show _ < _; first | omega | (simp; done) | (simp; omega)) | (show ¬ _ = _; first | omega | (simp; done) | (simp; omega)) | exact rfl)), by (repeat' (first | (with_reducible assumption) | (with_reducible refine RowAt.drewN ?_ _) | (with_reducible refine RowAt.drew ?_) | (with_reducible apply RowAt.six) | (with_reducible apply RowAt.seven) | ((with_reducible refine RowAt.mk ?_ ?_); (focus (first | rfl | (simp; done))); rfl) | (with_reducible refine RowAt.alloc ?_ _) | (with_reducible refine RowAt.far ?_ ?_) | (with_reducible refine RowAt.run ?_ (by assumption)) | (with_reducible refine RowAt.below ?_ (by assumption) ?_) | (with_reducible refine RowAt.upd ?_ (by assumption) ?_) | (show _ < _; first | omega | (simp; done) | (simp; omega)) | (show ¬ _ = _; first | omega | (simp; done) | (simp; omega)) | exact rfl)), by (repeat' (first | (with_reducible exact Below.refl _ _) | (with_reducible assumption) | (with_reducible refine below_run ?_ (by assumption)) | (with_reducible refine below_of_upd ?_ (by assumption) ?_) | (with_reducible refine below_drewN ?_ _) | (with_reducible refine Below.drew ?_) | (with_reducible refine Below.setCell ?_ ?_ _) | (with_reducible refine Below.alloc ?_ ?_ _) | (with_reducible refine below_after ?_ ?_ (by assumption)) | (show _ ≤ _; first | omega | (simp; done) | (simp; omega))))⟩
      · exfalso
        have e2 : kind ≠ 2 := ne_of_beq (h2.trans (by assumption))
        have e3 : kind ≠ 3 := ne_of_beq (h3.trans (by assumption))
        have e4 : kind ≠ 4 := ne_of_beq (h4.trans (by assumption))
        have e5 : kind ≠ 5 := ne_of_beq (h5.trans (by assumption))
        have hk := HK.out
        omega
    case rest =>
      obtain ⟨rfl, rfl, kd, km, kx, ky, kb⟩ := hcut
      obtain ⟨d1, d2, d3, d4, d5, d6⟩ := row_facts kd
      obtain ⟨m1, m2, m3, m4, m5, m6⟩ := row_facts km
      obtain ⟨x1, x2, x3, x4, x5, x6⟩ := row_facts kx
      obtain ⟨y1, y2, y3, y4, y5, y6⟩ := row_facts ky
      by_cases he : dst = 281474976710655
      · have e1 : (dst == 281474976710655) = true := by simpa using he
        have HRV := Lib.hid (HV.out.trans (if_pos he))
        clear he
        go_wp2
        rw [HRV.out]
        refine bodyPost_ret (v := .tuple #[devV d', msgV zeroM, .bool false]) ?_ rfl ⟨rfl, by (repeat' (first | (with_reducible exact Below.refl _ _) | (with_reducible assumption) | (with_reducible refine below_run ?_ (by assumption)) | (with_reducible refine below_of_upd ?_ (by assumption) ?_) | (with_reducible refine below_drewN ?_ _) | (with_reducible refine Below.drew ?_) | (with_reducible refine Below.setCell ?_ ?_ _) | (with_reducible refine Below.alloc ?_ ?_ _) | (with_reducible refine below_after ?_ ?_ (by assumption)) | (show _ ≤ _; first | omega | (simp; done) | (simp; omega))))⟩
        simp [results, Tryz.results133, go_sem, zeroM, *]
      · have e1 : (dst == 281474976710655) = false := by simpa using he
        have HRV := Lib.hid (HV.out.trans (if_neg he))
        clear he
        go_wp2
        go_region_held3 (fun w' => w'.cell? ⟨w.heap.size, 0, none⟩ = some (.int .u64 id) ∧ w'.cell? ⟨w.heap.size, 1, none⟩ = some (.int .i64 d'.ft) ∧ w'.cell? ⟨w.heap.size, 2, none⟩ = some (.int .i64 d'.ad) ∧ w'.cell? ⟨w.heap.size, 3, none⟩ = some (.string d'.lb) ∧ w'.cell? ⟨w.heap.size, 4, none⟩ = some (.int .i64 d'.hr) ∧ w'.cell? ⟨w.heap.size, 5, none⟩ = some (.bool d'.mu) ∧ w'.cell? ⟨w.heap.size, 6, none⟩ = some (.bool d'.idf) ∧ w'.cell? ⟨w.heap.size + 1, 0, none⟩ = some (.int .u64 dst) ∧ w'.cell? ⟨w.heap.size + 1, 1, none⟩ = some (.int .u64 src) ∧ w'.cell? ⟨w.heap.size + 1, 2, none⟩ = some (.int .i64 seq) ∧ w'.cell? ⟨w.heap.size + 1, 3, none⟩ = some (.int .i64 kind) ∧ w'.cell? ⟨w.heap.size + 1, 4, none⟩ = some (.int .i64 par) ∧ w'.cell? ⟨w.heap.size + 1, 5, none⟩ = some (.string dat)) (go_keep)
          (first | (go_at_call 167; refine (answered_any _ _ _ _ _ _ _ _ _ _ hreason).mono ?_; rintro e w4 ⟨m, rfl, ha, hb⟩; have hz := hb.size; (try simp at hz); obtain ⟨hc, hf, hT1, hT2, hT3, hT4, hz⟩ := bfacts (n := w.heap.size + 4) hb (by first | (simp; done) | (simp; omega) | omega)))
        all_goals (go_wp2)
        all_goals (rw [HRV.out, ha.out]; refine bodyPost_ret (v := .tuple #[devV d', msgV m, .bool true]) ?_ rfl ⟨rfl, by (repeat' (first | (with_reducible exact Below.refl _ _) | (with_reducible assumption) | (with_reducible refine below_run ?_ (by assumption)) | (with_reducible refine below_of_upd ?_ (by assumption) ?_) | (with_reducible refine below_drewN ?_ _) | (with_reducible refine Below.drew ?_) | (with_reducible refine Below.setCell ?_ ?_ _) | (with_reducible refine Below.alloc ?_ ?_ _) | (with_reducible refine below_after ?_ ?_ (by assumption)) | (show _ ≤ _; first | omega | (simp; done) | (simp; omega))))⟩; simp [results, Tryz.results133, go_sem, *])

end Go.Proofs.YtpkhcehddfmhpaaGreat

namespace Go.Proofs.YtpkhcehddfmhpaaGreat
open Go.RowKit

set_option maxHeartbeats 1000000 in
set_option maxRecDepth 100000 in
theorem rcvd_deaf (id ft ad hr dst src seq kind par : Int) (lb dat : ByteArray) (mu idf : Bool) (w : World) (hk : deafD ⟨id, ft, ad, lb, hr, mu, idf⟩ ⟨dst, src, seq, kind, par, dat⟩ = true) :
    Calls Tryz.prog 133 #[.agg #[.int .u64 id, .int .i64 ft, .int .i64 ad, .string lb, .int .i64 hr, .bool mu, .bool idf], .agg #[.int .u64 dst, .int .u64 src, .int .i64 seq, .int .i64 kind, .int .i64 par, .string dat]] w (RcvdPost (recvD ⟨id, ft, ad, lb, hr, mu, idf⟩ ⟨dst, src, seq, kind, par, dat⟩) w) := by
  have hrv : recvD ⟨id, ft, ad, lb, hr, mu, idf⟩ ⟨dst, src, seq, kind, par, dat⟩ = (⟨id, ft, ad, lb, hr, mu, idf⟩, zeroM, false) := by rw [recvD, if_pos hk]
  rw [hrv]
  clear hrv
  have hk' : (dst ≠ id ∧ dst ≠ 281474976710655) ∨ kind = 6 ∨ kind = 7 := by simpa [deafD] using hk
  clear hk
  obtain ⟨q1, h1⟩ : ∃ q, (dst != id) = q := ⟨_, rfl⟩
  obtain ⟨q2, h2⟩ : ∃ q, (dst != 281474976710655) = q := ⟨_, rfl⟩
  obtain ⟨q6, h6⟩ : ∃ q, (kind == 6) = q := ⟨_, rfl⟩
  obtain ⟨q7, h7⟩ : ∃ q, (kind == 7) = q := ⟨_, rfl⟩
  have hq : (q1 = true ∧ q2 = true) ∨ q6 = true ∨ q7 = true := by
    rw [← h1, ← h2, ← h6, ← h7]; simpa using hk'
  clear hk'
  cases q1 <;> cases q2 <;> cases q6 <;> cases q7 <;> first | (exfalso; simp at hq; done) | skip
  all_goals (clear hq; skip)
  all_goals
    go_enter Tryz.func133, Tryz.ntmps133
    go_wp2
    refine bodyPost_ret (v := .tuple #[devV ⟨id, ft, ad, lb, hr, mu, idf⟩, msgV zeroM, .bool false]) ?_ rfl ⟨rfl, by (repeat' (first | (with_reducible exact Below.refl _ _) | (with_reducible assumption) | (with_reducible refine below_run ?_ (by assumption)) | (with_reducible refine below_of_upd ?_ (by assumption) ?_) | (with_reducible refine below_drewN ?_ _) | (with_reducible refine Below.drew ?_) | (with_reducible refine Below.setCell ?_ ?_ _) | (with_reducible refine Below.alloc ?_ ?_ _) | (with_reducible refine below_after ?_ ?_ (by assumption)) | (show _ ≤ _; first | omega | (simp; done) | (simp; omega))))⟩
    simp [results, Tryz.results133, go_sem, zeroM, *]

theorem rcvd_any (id ft ad hr dst src seq kind par : Int) (lb dat : ByteArray) (mu idf : Bool) (w : World) (hc : chkD ⟨id, ft, ad, lb, hr, mu, idf⟩ = 0) (hm : chk ⟨dst, src, seq, kind, par, dat⟩ = 0) (hds : dat.size ≤ 9223372036854775807) :
    Calls Tryz.prog 133 #[.agg #[.int .u64 id, .int .i64 ft, .int .i64 ad, .string lb, .int .i64 hr, .bool mu, .bool idf], .agg #[.int .u64 dst, .int .u64 src, .int .i64 seq, .int .i64 kind, .int .i64 par, .string dat]] w (RcvdPost (recvD ⟨id, ft, ad, lb, hr, mu, idf⟩ ⟨dst, src, seq, kind, par, dat⟩) w) := by
  have hf := fine_of_chk _ hc
  by_cases hk : deafD ⟨id, ft, ad, lb, hr, mu, idf⟩ ⟨dst, src, seq, kind, par, dat⟩ = true
  · exact rcvd_deaf id ft ad hr dst src seq kind par lb dat mu idf w hk
  · have hk1 : deafD ⟨id, ft, ad, lb, hr, mu, idf⟩ ⟨dst, src, seq, kind, par, dat⟩ = false := by simpa using hk
    have hk' : ¬ ((dst ≠ id ∧ dst ≠ 281474976710655) ∨ kind = 6 ∨ kind = 7) := by simpa [deafD] using hk
    have hkind : 1 ≤ kind ∧ kind ≤ 7 := by grind [chk]
    by_cases h1 : kind = 1
    · subst h1
      exact rcvd_seek id ft ad hr dst src seq par lb dat mu idf w hf hm hk1
    · exact rcvd_act id ft ad hr dst src seq kind par lb dat mu idf w hf hc hk1 (by omega) hds

end Go.Proofs.YtpkhcehddfmhpaaGreat
