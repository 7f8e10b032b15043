/-
  The contracts of the reference's answers.
-/
import Derived.Test.YtpkhcehddfmhpaaGreatPutR
import Derived.Test.YtpkhcehddfmhpaaGreatBas
import Derived.Test.YtpkhcehddfmhpaaGreatRchk
namespace Go.Proofs.YtpkhcehddfmhpaaGreat
open Go.RowKit

set_option maxHeartbeats 1000000 in
set_option maxRecDepth 100000 in
theorem answered_any (dst src seq kind par id r : Int) (dat s : ByteArray) (w : World) (hr : r = -1 ∨ (0 ≤ r ∧ r ≤ 255)) :
    Calls Tryz.prog 167 #[.agg #[.int .u64 dst, .int .u64 src, .int .i64 seq, .int .i64 kind, .int .i64 par, .string dat], .int .u64 id, .string s, .int .i64 r] w fun e w' => ∃ m, e = .returned (msgV m) ∧ Hid (answered ⟨dst, src, seq, kind, par, dat⟩ id s r = m) ∧ Below w.heap.size w w' := by
  by_cases h0 : 0 ≤ r
  · have h1 : r ≤ 255 := by omega
    have ha : Hid (answered ⟨dst, src, seq, kind, par, dat⟩ id s r = ⟨src, id, seq, 7, par, bytesB r 1⟩) := by show answered _ _ _ _ = _; rw [answered, if_pos h0]; rfl
    clear hr
    go_enter Tryz.func167, Tryz.ntmps167
    go_wp2
    go_region_held3 (fun w' => w'.cell? ⟨w.heap.size, 0, none⟩ = some (.int .u64 dst) ∧ w'.cell? ⟨w.heap.size, 1, none⟩ = some (.int .u64 src) ∧ w'.cell? ⟨w.heap.size, 2, none⟩ = some (.int .i64 seq) ∧ w'.cell? ⟨w.heap.size, 3, none⟩ = some (.int .i64 kind) ∧ w'.cell? ⟨w.heap.size, 4, none⟩ = some (.int .i64 par) ∧ w'.cell? ⟨w.heap.size, 5, none⟩ = some (.string dat)) (go_keep)
      (first
        | (go_at_call 184; refine (sbytes_any _ _ _ (by omega) (by omega) (by omega) (by omega)).mono ?_; rintro e w3 ⟨rfl, hb⟩; obtain ⟨hc, hf, hT1, hT2, hT3, hT4, hz⟩ := bfacts (n := w.heap.size + 2) hb (by first | (simp; done) | (simp; omega) | omega))
        | (go_at_call 187; refine (replied_any _ _ _ _ _ _ _ _ _ _).mono ?_; rintro e w4 ⟨rfl, hb⟩; obtain ⟨hc, hf, hT1, hT2, hT3, hT4, hz⟩ := bfacts (n := w.heap.size + 2) hb (by first | (simp; done) | (simp; omega) | omega)))
    all_goals (go_wp2)
    all_goals (refine bodyPost_ret (v := msgV ⟨src, id, seq, 7, par, bytesB r 1⟩) ?_ rfl ⟨_, rfl, ha, by (repeat' (first | (with_reducible exact Below.refl _ _) | (with_reducible assumption) | (with_reducible refine below_run ?_ (by assumption)) | (with_reducible refine below_of_upd ?_ (by assumption) ?_) | (with_reducible refine below_drewN ?_ _) | (with_reducible refine Below.drew ?_) | (with_reducible refine Below.setCell ?_ ?_ _) | (with_reducible refine Below.alloc ?_ ?_ _) | (with_reducible refine below_after ?_ ?_ (by assumption)) | (show _ ≤ _; first | omega | (simp; done) | (simp; omega))))⟩; simp [results, Tryz.results167, go_sem, *])
  · have hr1 : r = -1 := by omega
    subst hr1
    have ha : Hid (answered ⟨dst, src, seq, kind, par, dat⟩ id s (-1) = ⟨src, id, seq, 6, par, s⟩) := by show answered _ _ _ _ = _; rw [answered, if_neg (by decide)]; rfl
    clear hr h0
    go_enter Tryz.func167, Tryz.ntmps167
    go_wp2_with (go_at_call 187; refine (replied_any _ _ _ _ _ _ _ _ _ _).mono ?_; rintro e w4 ⟨rfl, hb⟩; obtain ⟨hc, hf, hT1, hT2, hT3, hT4, hz⟩ := bfacts (n := w.heap.size + 2) hb (by first | (simp; done) | (simp; omega) | omega))
    refine bodyPost_ret (v := msgV ⟨src, id, seq, 6, par, s⟩) ?_ rfl ⟨_, rfl, ha, by (repeat' (first | (with_reducible exact Below.refl _ _) | (with_reducible assumption) | (with_reducible refine below_run ?_ (by assumption)) | (with_reducible refine below_of_upd ?_ (by assumption) ?_) | (with_reducible refine below_drewN ?_ _) | (with_reducible refine Below.drew ?_) | (with_reducible refine Below.setCell ?_ ?_ _) | (with_reducible refine Below.alloc ?_ ?_ _) | (with_reducible refine below_after ?_ ?_ (by assumption)) | (show _ ≤ _; first | omega | (simp; done) | (simp; omega))))⟩
    simp [results, Tryz.results167, go_sem, *]

set_option maxHeartbeats 400000 in
theorem identity_any (id : Int) (w : World) (h0 : 0 ≤ id) (h1 : id < 281474976710655) :
    Calls Tryz.prog 183 #[.int .u64 id] w fun e w' => e = .returned (.string (bytesB id 6)) ∧ Below w.heap.size w w' := by
  have hw : IntKind.i64.wrap id = id := IntWalk.i64_in _ (by omega)
  have hw2 : wrap64 id = id := IntWalk.wrap64_in _ (by omega)
  go_enter Tryz.func183, Tryz.ntmps183
  go_wp2_with (go_at_call 184; refine (sbytes_any _ _ _ (by omega) (by omega) (by omega) (by omega)).mono ?_; rintro e w3 ⟨rfl, hb⟩)
  go_ret
  exact ⟨rfl, by (repeat' (first | (with_reducible exact Below.refl _ _) | (with_reducible assumption) | (with_reducible refine below_run ?_ (by assumption)) | (with_reducible refine below_of_upd ?_ (by assumption) ?_) | (with_reducible refine below_drewN ?_ _) | (with_reducible refine Below.drew ?_) | (with_reducible refine Below.setCell ?_ ?_ _) | (with_reducible refine Below.alloc ?_ ?_ _) | (with_reducible refine below_after ?_ ?_ (by assumption)) | (show _ ≤ _; first | omega | (simp; done) | (simp; omega))))⟩

/-- The answer of a device to a search. -/
def foundD (d : Dev) (m : Msg) : Msg × Bool := if hushD d m then (zeroM, false) else (replied m d.id 6 (bytesB d.id 6), true)

theorem answered_six (m : Msg) (id : Int) (s : ByteArray) : answered m id s (-1) = replied m id 6 s := by rw [answered, if_neg (by decide)]

theorem answered_ok (dst src seq kind par id : Int) (dat s : ByteArray) (w : World) :
    Calls Tryz.prog 167 #[.agg #[.int .u64 dst, .int .u64 src, .int .i64 seq, .int .i64 kind, .int .i64 par, .string dat], .int .u64 id, .string s, .int .i64 (-1)] w fun e w' => e = .returned (.agg #[.int .u64 src, .int .u64 id, .int .i64 seq, .int .i64 6, .int .i64 par, .string s]) ∧ Below w.heap.size w w' := by
  refine (answered_any dst src seq kind par id (-1) dat s w (.inl rfl)).mono ?_
  rintro e w' ⟨m, rfl, ha, hb⟩
  have ha := ha.out
  rw [answered_six] at ha
  subst ha
  exact ⟨rfl, hb⟩

/-- What the reference leaves of a search. -/
def FoundPost (r : Msg × Bool) (w : World) (e : Ending) (w' : World) : Prop := e = .returned (.tuple #[msgV r.1, .bool r.2]) ∧ Below w.heap.size w w'

set_option maxHeartbeats 1000000 in
set_option maxRecDepth 100000 in
theorem discovered_any (id ft ad hr dst src seq par : Int) (lb dat : ByteArray) (mu idf : Bool) (w : World) (h0 : 0 ≤ id) (h1 : id < 281474976710655) (hs : Hid (dat.size = 12)) :
    Calls Tryz.prog 164 #[.agg #[.int .u64 id, .int .i64 ft, .int .i64 ad, .string lb, .int .i64 hr, .bool mu, .bool idf], .agg #[.int .u64 dst, .int .u64 src, .int .i64 seq, .int .i64 1, .int .i64 par, .string dat]] w (FoundPost (foundD ⟨id, ft, ad, lb, hr, mu, idf⟩ ⟨dst, src, seq, 1, par, dat⟩) w) := by
  have g1 : ¬ w.heap.size = w.heap.size + 1 + 1 := by omega
  have g2 : ¬ w.heap.size + 1 + 1 = w.heap.size := by omega
  go_enter Tryz.func164, Tryz.ntmps164
  go_wp2_with (go_at_call 182; refine (ends_any _ _ _ _ _ _ _ hs).mono ?_; rintro e w1 ⟨lo, hi, rfl, he, hb⟩; obtain ⟨hc, hf, hT1, hT2, hT3, hT4, hz⟩ := bfacts (n := w.heap.size + 3) hb (by first | (simp; done) | (simp; omega) | omega))
  · have h : mu = true := by assumption
    have hh : foundD ⟨id, ft, ad, lb, hr, mu, idf⟩ ⟨dst, src, seq, 1, par, dat⟩ = (zeroM, false) := by simp [foundD, hushD, h]
    rw [hh]
    refine bodyPost_ret (v := .tuple #[msgV zeroM, .bool false]) ?_ rfl ⟨rfl, by (repeat' (first | (with_reducible exact Below.refl _ _) | (with_reducible assumption) | (with_reducible refine below_run ?_ (by assumption)) | (with_reducible refine below_of_upd ?_ (by assumption) ?_) | (with_reducible refine below_drewN ?_ _) | (with_reducible refine Below.drew ?_) | (with_reducible refine Below.setCell ?_ ?_ _) | (with_reducible refine Below.alloc ?_ ?_ _) | (with_reducible refine below_after ?_ ?_ (by assumption)) | (show _ ≤ _; first | omega | (simp; done) | (simp; omega))))⟩
    simp [results, Tryz.results164, go_sem, zeroM, *]
  · have h : id < lo ∨ hi < id := by first | assumption | (left; assumption) | (right; assumption)
    have hh : foundD ⟨id, ft, ad, lb, hr, mu, idf⟩ ⟨dst, src, seq, 1, par, dat⟩ = (zeroM, false) := by simp [foundD, hushD, he.out.1, he.out.2, h]
    rw [hh]
    refine bodyPost_ret (v := .tuple #[msgV zeroM, .bool false]) ?_ rfl ⟨rfl, by (repeat' (first | (with_reducible exact Below.refl _ _) | (with_reducible assumption) | (with_reducible refine below_run ?_ (by assumption)) | (with_reducible refine below_of_upd ?_ (by assumption) ?_) | (with_reducible refine below_drewN ?_ _) | (with_reducible refine Below.drew ?_) | (with_reducible refine Below.setCell ?_ ?_ _) | (with_reducible refine Below.alloc ?_ ?_ _) | (with_reducible refine below_after ?_ ?_ (by assumption)) | (show _ ≤ _; first | omega | (simp; done) | (simp; omega))))⟩
    simp [results, Tryz.results164, go_sem, zeroM, *]
  · have h : ¬ mu = true := by assumption
    have h2 : lo ≤ id ∧ id ≤ hi := by assumption
    have hh : Hid (foundD ⟨id, ft, ad, lb, hr, mu, idf⟩ ⟨dst, src, seq, 1, par, dat⟩ = (replied ⟨dst, src, seq, 1, par, dat⟩ id 6 (bytesB id 6), true)) := by
      show foundD _ _ = _
      have h3 : mu = false := by simpa using h
      rw [foundD, if_neg (by simp [hushD, he.out.1, he.out.2, h3]; omega)]
    go_region_held3 (fun w' => w'.cell? ⟨w.heap.size, 0, none⟩ = some (.int .u64 id) ∧ w'.cell? ⟨w.heap.size + 1, 0, none⟩ = some (.int .u64 dst) ∧ w'.cell? ⟨w.heap.size + 1, 1, none⟩ = some (.int .u64 src) ∧ w'.cell? ⟨w.heap.size + 1, 2, none⟩ = some (.int .i64 seq) ∧ w'.cell? ⟨w.heap.size + 1, 3, none⟩ = some (.int .i64 1) ∧ w'.cell? ⟨w.heap.size + 1, 4, none⟩ = some (.int .i64 par) ∧ w'.cell? ⟨w.heap.size + 1, 5, none⟩ = some (.string dat)) (go_keep)
      (first
        | (go_at_call 183; refine (identity_any _ _ h0 h1).mono ?_; rintro e w3 ⟨rfl, hb⟩; obtain ⟨hc, hf, hT1, hT2, hT3, hT4, hz⟩ := bfacts (n := w.heap.size + 3) hb (by first | (simp; done) | (simp; omega) | omega))
        | (go_at_call 167; refine (answered_ok _ _ _ _ _ _ _ _ _).mono ?_; rintro e w4 ⟨rfl, hb⟩; obtain ⟨hc, hf, hT1, hT2, hT3, hT4, hz⟩ := bfacts (n := w.heap.size + 3) hb (by first | (simp; done) | (simp; omega) | omega)))
    all_goals (go_wp2)
    all_goals (rw [hh.out]; refine bodyPost_ret (v := .tuple #[msgV (replied ⟨dst, src, seq, 1, par, dat⟩ id 6 (bytesB id 6)), .bool true]) ?_ rfl ⟨rfl, by (repeat' (first | (with_reducible exact Below.refl _ _) | (with_reducible assumption) | (with_reducible refine below_run ?_ (by assumption)) | (with_reducible refine below_of_upd ?_ (by assumption) ?_) | (with_reducible refine below_drewN ?_ _) | (with_reducible refine Below.drew ?_) | (with_reducible refine Below.setCell ?_ ?_ _) | (with_reducible refine Below.alloc ?_ ?_ _) | (with_reducible refine below_after ?_ ?_ (by assumption)) | (show _ ≤ _; first | omega | (simp; done) | (simp; omega))))⟩; simp [results, Tryz.results164, go_sem, replied, *])
  · have h : id < lo ∨ hi < id := by first | assumption | (left; assumption) | (right; assumption)
    have hh : foundD ⟨id, ft, ad, lb, hr, false, idf⟩ ⟨dst, src, seq, 1, par, dat⟩ = (zeroM, false) := by simp [foundD, hushD, he.out.1, he.out.2, h]
    rw [hh]
    refine bodyPost_ret (v := .tuple #[msgV zeroM, .bool false]) ?_ rfl ⟨rfl, by (repeat' (first | (with_reducible exact Below.refl _ _) | (with_reducible assumption) | (with_reducible refine below_run ?_ (by assumption)) | (with_reducible refine below_of_upd ?_ (by assumption) ?_) | (with_reducible refine below_drewN ?_ _) | (with_reducible refine Below.drew ?_) | (with_reducible refine Below.setCell ?_ ?_ _) | (with_reducible refine Below.alloc ?_ ?_ _) | (with_reducible refine below_after ?_ ?_ (by assumption)) | (show _ ≤ _; first | omega | (simp; done) | (simp; omega))))⟩
    simp [results, Tryz.results164, go_sem, zeroM, *]

end Go.Proofs.YtpkhcehddfmhpaaGreat
