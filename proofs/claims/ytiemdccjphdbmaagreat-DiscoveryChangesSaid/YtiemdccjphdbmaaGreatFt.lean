/-
  Lists of identities and findings compared, few devices: the reference's.
  Two findings, the program's and the reference's, in memory.
-/
import Derived.Test.YtiemdccjphdbmaaGreatAk
import Derived.Test.YtiemdccjphdbmaaGreatKn
namespace Go.Proofs.YtiemdccjphdbmaaGreat
open Go.RowKit

set_option maxHeartbeats 1000000 in
set_option maxRecDepth 100000 in
theorem sameids_any (v u : Value) (l : List Int) (w : World) (hv : IdsAt w v l) (hu : IdsAt w u l) :
    Calls Tryz.prog 24 #[v, u] w fun e w' => e = .returned (.bool true) ∧ Below w.heap.size w w' := by
  rcases hv with ⟨h0, a, cap, rfl⟩ | ⟨h0, h1, b, off, cap, rfl, hlt, hc⟩
  · have hl : l = [] := List.eq_nil_of_length_eq_zero h0
    subst hl
    rcases hu with ⟨_, a', cap', rfl⟩ | ⟨g0, _⟩
    · go_enter Tryz.func24, Tryz.ntmps24
      go_wp2
      refine wp_loop_rounds 1 ?_
      rw [rounds_succ]
      go_wp2
      go_ret
      exact ⟨rfl, by (repeat' (first | (with_reducible exact Below.refl _ _) | (with_reducible assumption) | (with_reducible refine below_run ?_ (by assumption)) | (with_reducible refine below_of_upd ?_ (by assumption) ?_) | (with_reducible refine below_drewN ?_ _) | (with_reducible refine Below.drew ?_) | (with_reducible refine below_seven ?_ ?_) | (with_reducible refine below_six ?_ ?_) | (with_reducible refine below_one ?_ ?_) | (with_reducible refine Below.alloc ?_ ?_ _) | (with_reducible refine below_after ?_ ?_ (by assumption)) | (show _ ≤ _; first | omega | (simp; done) | (simp; omega))))⟩
    · simp at g0
  · rcases hu with ⟨g0, _⟩ | ⟨_, _, b', off', cap', rfl, hlt', hc'⟩
    · omega
    · have h3 : (l.length : Int) ≤ 140737488351232 := by omega
      have h4 : (0 : Int) < (l.length : Int) := by omega
      have h5 : ((l.length : Int) != (l.length : Int)) = false := by simp
      go_enter Tryz.func24, Tryz.ntmps24
      go_wp2
      go_loopw [5] (fun i wr => ∃ k : Nat, k ≤ l.length ∧ i = .int .i64 k ∧ Below w.heap.size w wr) (fun i _ => l.length - (intOf i).toNat)
      case atStart => exact ⟨0, Nat.zero_le _, rfl, Below.refl _ _⟩
      case round =>
        obtain ⟨k, hk, rfl, hb0⟩ := hrel
        by_cases hlt2 : k < l.length
        · have hlt3 : (k : Int) < (l.length : Int) := by omega
          have hk0 : (0 : Int) ≤ (k : Int) := by omega
          have hw1 : ∀ j, j < l.length * 1 → wr.cell? ⟨b, off + j, none⟩ = u64C l j := fun j hj => (hb0.cell (p := ⟨b, off + j, none⟩) hlt).trans (hc j hj)
          have hw2 : ∀ j, j < l.length * 1 → wr.cell? ⟨b', off' + j, none⟩ = u64C l j := fun j hj => (hb0.cell (p := ⟨b', off' + j, none⟩) hlt').trans (hc' j hj)
          obtain ⟨y, hy, e0⟩ := id_cell hw1 k hlt2
          obtain ⟨y', hy', e0'⟩ := id_cell hw2 k hlt2
          rw [hy] at hy'
          simp only [Option.some.injEq] at hy'
          subst hy'
          clear hc hc' hw1 hw2 hy
          go_wp2
          go_quiet (fail)
          go_wp2
          go_roundw
          case rel => exact ⟨k + 1, by omega, by go_num, by (repeat' (first | (with_reducible exact Below.refl _ _) | (with_reducible assumption) | (with_reducible refine below_run ?_ (by assumption)) | (with_reducible refine below_of_upd ?_ (by assumption) ?_) | (with_reducible refine below_drewN ?_ _) | (with_reducible refine Below.drew ?_) | (with_reducible refine below_seven ?_ ?_) | (with_reducible refine below_six ?_ ?_) | (with_reducible refine below_one ?_ ?_) | (with_reducible refine Below.alloc ?_ ?_ _) | (with_reducible refine below_after ?_ ?_ (by assumption)) | (show _ ≤ _; first | omega | (simp; done) | (simp; omega))))⟩
          case measure => simp [intOf]; omega
        · obtain rfl : k = l.length := by omega
          go_wp2
          go_ret
          exact ⟨rfl, hb0⟩

set_option maxHeartbeats 1000000 in
set_option maxRecDepth 100000 in
theorem samefind_any (v u : Value) (n : Int) (l : List Int) (w : World) (hv : IdsAt w v l) (hu : IdsAt w u l) :
    Calls Tryz.prog 14 #[.agg #[v, .int .i64 n], .agg #[u, .int .i64 n]] w fun e w' => e = .returned (.bool true) ∧ Below w.heap.size w w' := by
  have C := Lib.hid (fun W (h : Below w.heap.size w W) => sameids_any v u l W (hv.run h) (hu.run h))
  obtain ⟨sa, sn, sc, rfl⟩ := slice_of hv
  obtain ⟨ta, tn, tc, rfl⟩ := slice_of hu
  have h5 : (n == n) = true := by simp
  clear hv hu
  go_enter Tryz.func14, Tryz.ntmps14
  go_wp2_with fail
  refine (C.out _ (by (repeat' (first | (with_reducible exact Below.refl _ _) | (with_reducible assumption) | (with_reducible refine below_run ?_ (by assumption)) | (with_reducible refine below_of_upd ?_ (by assumption) ?_) | (with_reducible refine below_drewN ?_ _) | (with_reducible refine Below.drew ?_) | (with_reducible refine below_seven ?_ ?_) | (with_reducible refine below_six ?_ ?_) | (with_reducible refine below_one ?_ ?_) | (with_reducible refine Below.alloc ?_ ?_ _) | (with_reducible refine below_after ?_ ?_ (by assumption)) | (show _ ≤ _; first | omega | (simp; done) | (simp; omega)))))).mono ?_
  rintro e w1 ⟨rfl, hb1⟩
  go_wp2
  go_ret
  exact ⟨rfl, by (repeat' (first | (with_reducible exact Below.refl _ _) | (with_reducible assumption) | (with_reducible refine below_run ?_ (by assumption)) | (with_reducible refine below_of_upd ?_ (by assumption) ?_) | (with_reducible refine below_drewN ?_ _) | (with_reducible refine Below.drew ?_) | (with_reducible refine below_seven ?_ ?_) | (with_reducible refine below_six ?_ ?_) | (with_reducible refine below_one ?_ ?_) | (with_reducible refine Below.alloc ?_ ?_ _) | (with_reducible refine below_after ?_ ?_ (by assumption)) | (show _ ≤ _; first | omega | (simp; done) | (simp; omega))))⟩

/-- Few devices, or so many that this is an error. -/
def fewD (l : List Dev) : Bool := (decide (l.length ≤ 8) || decide (64 < l.length)) && (decide (l.length ≤ 128) && l.all fun d => decide (d.lb.size ≤ 100))
set_option maxHeartbeats 1000000 in
set_option maxRecDepth 100000 in
theorem few_any (v : Value) (l : List Dev) (w : World) (hv : DevsAt w v l) :
    Calls Tryz.prog 8 #[v] w fun e w' => e = .returned (.bool (fewD l)) ∧ Below w.heap.size w w' := by
  obtain ⟨q, hq⟩ : ∃ q, (decide (l.length ≤ 128) && l.all fun d => decide (d.lb.size ≤ 100)) = q := ⟨_, rfl⟩
  have C := Lib.hid (fewall_is q v l w hv hq)
  have HF : Hid (fewD l = ((decide (l.length ≤ 8) || decide (64 < l.length)) && q)) := by show fewD l = _; rw [fewD, hq]
  have hln : ∀ a k c, v = .slice a k c → k = l.length := by
    rintro a k c rfl
    rcases hv with ⟨h0, _, _, e⟩ | ⟨_, _, _, _, _, e, _⟩ <;> cases e <;> omega
  obtain ⟨sa, sk, sc, rfl⟩ := slice_of hv
  obtain rfl := hln _ _ _ rfl
  clear hv hln hq
  by_cases h8 : l.length ≤ 8
  · have g8 : (l.length : Int) ≤ 8 := by omega
    go_enter Tryz.func8, Tryz.ntmps8
    go_wp2_with fail
    refine C.out.mono ?_
    rintro e w1 ⟨rfl, hb1⟩
    go_wp2
    go_ret
    exact ⟨ret_bool (by rw [HF.out]; simp [h8]), hb1⟩
  · have g8 : ¬ (l.length : Int) ≤ 8 := by omega
    by_cases h64 : 64 < l.length
    · have g64 : (64 : Int) < (l.length : Int) := by omega
      go_enter Tryz.func8, Tryz.ntmps8
      go_wp2_with fail
      refine C.out.mono ?_
      rintro e w1 ⟨rfl, hb1⟩
      go_wp2
      go_ret
      exact ⟨ret_bool (by rw [HF.out]; simp [h64]), hb1⟩
    · have g64 : ¬ (64 : Int) < (l.length : Int) := by omega
      go_enter Tryz.func8, Tryz.ntmps8
      go_wp2
      go_ret
      exact ⟨ret_bool (by rw [HF.out]; simp [h8, h64]), Below.refl _ _⟩
end Go.Proofs.YtiemdccjphdbmaaGreat

namespace Go.Proofs.YtiemdccjphdbmaaGreat
open Go.RowKit

theorem fewD_small {l : List Dev} (h : fewD l = true) : l.length ≤ 128 ∧ ∀ d ∈ l, d.lb.size ≤ 9223372036854775807 := by
  unfold fewD at h
  simp only [Bool.and_eq_true, List.all_eq_true, decide_eq_true_eq] at h
  exact ⟨h.2.1, fun d hd => by have := h.2.2 d hd; omega⟩
theorem few48_is (q : Bool) (v : Value) (l : List Dev) (w : World) (hv : DevsAt w v l) (h : Hid (fewD l = q)) : Calls Tryz.prog 8 #[v] w fun e w' => e = .returned (.bool q) ∧ Below w.heap.size w w' := by
  have := few_any v l w hv
  rw [h.out] at this
  exact this

/-- Both findings lie in memory. -/
structure Found2 (w wx : World) (g k1 : Nat) (v1 vf1 v2 vf2 : Value) (N : Int) (ds : List Dev) (xs : List Int) : Prop where
  r2 : RowAt wx g 36 #[vf2, .int .i64 N]
  d2 : DevsAt wx v2 ds
  i2 : IdsAt wx vf2 xs
  r1 : RowAt wx k1 32 #[vf1, .int .i64 N]
  d1 : DevsAt wx v1 ds
  i1 : IdsAt wx vf1 xs
  below : Below w.heap.size w wx
theorem Found2.run {w wx w' : World} {g k1 : Nat} {v1 vf1 v2 vf2 : Value} {N : Int} {ds : List Dev} {xs : List Int} (h : Found2 w wx g k1 v1 vf1 v2 vf2 N ds xs) (hb : Below wx.heap.size wx w') : Found2 w w' g k1 v1 vf1 v2 vf2 N ds xs :=
  ⟨h.r2.run hb, h.d2.run hb, h.i2.run hb, h.r1.run hb, h.d1.run hb, h.i1.run hb, below_run h.below hb⟩

theorem found2 {w W : World} {g k1 n c : Nat} {a : Option Addr} {m : Int} {v1 vf1 v2 vf2 : Value} {N : Int} {ds : List Dev} {xs : List Int} (r2 : RowAt W g 36 #[.slice a n c, .int .i64 m]) (r1 : RowAt W k1 32 #[vf1, .int .i64 N])
    (d2 : DevsAt W v2 ds) (i2 : IdsAt W vf2 xs) (d1 : DevsAt W v1 ds) (i1 : IdsAt W vf1 xs) (hb : Below w.heap.size w W) (hg : w.heap.size ≤ g) : Found2 w ((W.setCell ⟨g, 0, none⟩ vf2).setCell ⟨g, 1, none⟩ (.int .i64 N)) g k1 v1 vf1 v2 vf2 N ds xs := by
  have hne : k1 ≠ g := by
    rintro rfl
    unfold RowAt at r1 r2
    rw [r1] at r2
    simp at r2
  exact ⟨r2.two, devs_two r2 (by simp) d2, ids_two r2 i2, (r1.far1 hne).far1 hne, devs_two r2 (by simp) d1, ids_two r2 i1, below_one (below_one hb hg) hg⟩
theorem found2_new {w W : World} {k1 : Nat} {v1 vf1 v2 vf2 : Value} {N : Int} {ds : List Dev} {xs : List Int} (r1 : RowAt W k1 32 #[vf1, .int .i64 N])
    (d2 : DevsAt W v2 ds) (i2 : IdsAt W vf2 xs) (d1 : DevsAt W v1 ds) (i1 : IdsAt W vf1 xs) (hb : Below w.heap.size w W) : Found2 w (W.alloc (.cells #[vf2, .int .i64 N] 36)) W.heap.size k1 v1 vf1 v2 vf2 N ds xs :=
  ⟨RowAt.new _ _ _, d2.alloc _, i2.alloc _, r1.alloc _, d1.alloc _, i1.alloc _, hb.alloc hb.size _⟩
end Go.Proofs.YtiemdccjphdbmaaGreat
