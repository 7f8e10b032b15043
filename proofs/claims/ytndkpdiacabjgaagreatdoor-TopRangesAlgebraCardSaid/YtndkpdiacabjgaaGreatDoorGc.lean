/-
  Ranges: what is right, what a list's check says; what is put into a set.
-/
import Derived.Test.YtndkpdiacabjgaaGreatDoorGb
namespace Go.Proofs.YtndkpdiacabjgaaGreatDoor
open Go.RowKit

set_option maxHeartbeats 1000000 in
set_option maxRecDepth 100000 in
theorem gright_any (a b : Int) (w : World) :
    Calls Tryz.prog 54 #[.agg #[.int .i64 a, .int .i64 b]] w fun e w' => e = .returned (.bool (rightG (a, b))) ∧ Below w.heap.size w w' := by
  go_enter Tryz.func54, Tryz.ntmps54
  go_wp2
  all_goals go_ret
  all_goals exact ⟨ret_bool (by grind [rightG]), by (repeat' (first | (with_reducible exact Below.refl _ _) | (with_reducible assumption) | (with_reducible refine below_run ?_ (by assumption)) | (with_reducible refine below_of_upd ?_ (by assumption) ?_) | (with_reducible refine below_drewN ?_ _) | (with_reducible refine Below.drew ?_) | (with_reducible refine below_seven ?_ ?_) | (with_reducible refine below_six ?_ ?_) | (with_reducible refine below_one ?_ ?_) | (with_reducible refine Below.alloc ?_ ?_ _) | (with_reducible refine below_after ?_ ?_ (by assumption)) | (show _ ≤ _; first | omega | (simp; done) | (simp; omega))))⟩
theorem gright_is (q : Bool) (a b : Int) (w : World) (h : Hid (rightG (a, b) = q)) :
    Calls Tryz.prog 54 #[.agg #[.int .i64 a, .int .i64 b]] w fun e w' => e = .returned (.bool q) ∧ Below w.heap.size w w' := by
  have := gright_any a b w
  rw [h.out] at this
  exact this

theorem gright_hid {a b : Int} (h : rightG (a, b) = true) : 1 ≤ a ∧ a ≤ b ∧ b ≤ 999 := rightG_iff.1 h

set_option maxHeartbeats 2000000 in
set_option maxRecDepth 100000 in
theorem gcheck_any (l : List (Int × Int)) (v : Value) (w : World) (h : RngsAt w v l) :
    Calls Tryz.prog 32 #[v] w fun e w' => e = .returned (.int .i64 (chkG none l)) ∧ Below w.heap.size w w' := by
  rcases h with ⟨h0, a, cap, rfl⟩ | ⟨h0, h1, b, off, cap, rfl, hlt, hc⟩
  · have hl : l = [] := List.eq_nil_of_length_eq_zero h0
    subst hl
    go_enter Tryz.func32, Tryz.ntmps32
    go_wp2
    refine wp_loop_rounds 1 ?_
    rw [rounds_succ]
    go_wp2
    go_ret
    exact ⟨rfl, by (repeat' (first | (with_reducible exact Below.refl _ _) | (with_reducible assumption) | (with_reducible refine below_run ?_ (by assumption)) | (with_reducible refine below_of_upd ?_ (by assumption) ?_) | (with_reducible refine below_drewN ?_ _) | (with_reducible refine Below.drew ?_) | (with_reducible refine below_seven ?_ ?_) | (with_reducible refine below_six ?_ ?_) | (with_reducible refine below_one ?_ ?_) | (with_reducible refine Below.alloc ?_ ?_ _) | (with_reducible refine below_after ?_ ?_ (by assumption)) | (show _ ≤ _; first | omega | (simp; done) | (simp; omega))))⟩
  · have HC := Lib.hid hc
    have hl1 : (l.length : Int) ≤ 140737488351232 := by omega
    clear hc h1
    go_enter Tryz.func32, Tryz.ntmps32
    go_wp2
    go_loopw [3, 4, 7] (fun _ _ i wr => ∃ k : Nat, k ≤ l.length ∧ i = .int .i64 k ∧ Hid (chkG none l = chkG (prevG l k) (l.drop k)) ∧ Hid (∀ j (hj : j < l.length), j < k → rightG l[j] = true) ∧ Below w.heap.size w wr) (fun _ _ i _ => l.length - (intOf i).toNat)
    case atStart => exact ⟨0, Nat.zero_le _, rfl, by simp [Hid, prevG], fun j hj h => absurd h (by omega), Below.refl _ _⟩
    case round =>
      obtain ⟨k, hk, rfl, HE, HR, hb0⟩ := hrel
      by_cases hlt2 : k < l.length
      · have hlt3 : (k : Int) < (l.length : Int) := by omega
        have hk0 : (0 : Int) ≤ (k : Int) := by omega
        have hc' : ∀ j, j < l.length * 2 → wr.cell? ⟨b, off + j, none⟩ = rngsC l j := fun j hj => (hb0.cell (p := ⟨b, off + j, none⟩) hlt).trans (HC.out j hj)
        obtain ⟨e1, e2⟩ := rng_cells hc' k hlt2
        obtain ⟨x, hx⟩ : ∃ x, l[k].1 = x := ⟨_, rfl⟩
        obtain ⟨y, hy⟩ : ∃ y, l[k].2 = y := ⟨_, rfl⟩
        rw [hx] at e1
        rw [hy] at e2
        have HXY : Hid (l[k] = (x, y)) := Lib.hid (by rw [← hx, ← hy])
        obtain ⟨q, hq⟩ : ∃ q, rightG (x, y) = q := ⟨_, rfl⟩
        have HQ := Lib.hid hq
        have hsz := hb0.size
        cases q with
        | false =>
          have HZ := Lib.hid (chkG_bad l k hlt2 (by rw [HXY.out]; exact hq))
          clear hc' hq hx hy
          go_wp2_with fail
          refine (gright_is false x y _ HQ).mono ?_
          rintro e w1 ⟨rfl, hb⟩
          go_wp2
          go_ret
          exact ⟨by rw [HE.out, HZ.out]; rfl, by (repeat' (first | (with_reducible exact Below.refl _ _) | (with_reducible assumption) | (with_reducible refine below_run ?_ (by assumption)) | (with_reducible refine below_of_upd ?_ (by assumption) ?_) | (with_reducible refine below_drewN ?_ _) | (with_reducible refine Below.drew ?_) | (with_reducible refine below_seven ?_ ?_) | (with_reducible refine below_six ?_ ?_) | (with_reducible refine below_one ?_ ?_) | (with_reducible refine Below.alloc ?_ ?_ _) | (with_reducible refine below_after ?_ ?_ (by assumption)) | (show _ ≤ _; first | omega | (simp; done) | (simp; omega))))⟩
        | true =>
          obtain ⟨q1, q2, q3⟩ := gright_hid hq
          have HR' : Hid (∀ j (hj : j < l.length), j < k + 1 → rightG l[j] = true) := by
            intro j hj h
            rcases Nat.lt_or_eq_of_le (Nat.le_of_lt_succ h) with h' | rfl
            · exact HR.out j hj h'
            · rw [HXY.out]; exact hq
          by_cases hz : k = 0
          · have HN := Lib.hid (chkG_step l k hlt2 (by rw [HXY.out]; exact hq) (.inl hz))
            have hg : decide ((0 : Int) < (k : Int)) = false := by rw [hz]; rfl
            have hg2 : decide (0 < k) = false := by rw [hz]; rfl
            clear hc' hq hx hy hz
            go_wp2_with fail
            refine (gright_is true x y _ HQ).mono ?_
            rintro e w1 ⟨rfl, hb⟩
            obtain ⟨hc, hf, hT1, hT2, hT3, hT4, hz⟩ := bfacts (n := wr.heap.size + 1) hb (by first | (simp; done) | (simp; omega) | omega)
            go_wp2_with fail
            go_quiet (fail)
            go_wp2
            go_roundw
            case rel => exact ⟨k + 1, by omega, by go_num, by show _ = _; rw [HE.out, HN.out], HR', by (repeat' (first | (with_reducible exact Below.refl _ _) | (with_reducible assumption) | (with_reducible refine below_run ?_ (by assumption)) | (with_reducible refine below_of_upd ?_ (by assumption) ?_) | (with_reducible refine below_drewN ?_ _) | (with_reducible refine Below.drew ?_) | (with_reducible refine below_seven ?_ ?_) | (with_reducible refine below_six ?_ ?_) | (with_reducible refine below_one ?_ ?_) | (with_reducible refine Below.alloc ?_ ?_ _) | (with_reducible refine below_after ?_ ?_ (by assumption)) | (show _ ≤ _; first | omega | (simp; done) | (simp; omega))))⟩
            case measure => simp [intOf]; omega
          · have hkm : k - 1 < l.length := by omega
            have hkm2 : ((k : Int) - 1).toNat = k - 1 := by omega
            have hkm3 : (k : Int) - 1 < (l.length : Int) := by omega
            have hkm4 : (0 : Int) ≤ (k : Int) - 1 := by omega
            have hkm5 : IntKind.i64.wrap ((k : Int) - 1) = (k : Int) - 1 := IntWalk.i64_in _ (by omega)
            obtain ⟨f1, f2⟩ := rng_cells hc' (k - 1) hkm
            have hpr := rightG_iff.1 (HR.out (k - 1) hkm (by omega))
            obtain ⟨z, hzz⟩ : ∃ z, l[k - 1].2 = z := ⟨_, rfl⟩
            have hz0 : 1 ≤ z ∧ z ≤ 999 := by omega
            have hz1 : IntKind.i64.wrap (z + 2) = z + 2 := IntWalk.i64_in _ (by omega)
            rw [hzz] at f2
            have hg : decide ((0 : Int) < (k : Int)) = true := by simp; omega
            have hg2 : decide (0 < k) = true := by simp; omega
            by_cases ho : x < z + 2
            · have HZ := Lib.hid (chkG_ord l k hlt2 hz (by rw [HXY.out]; exact hq) hkm (by rw [hzz, HXY.out]; exact ho))
              clear hc' hq hx hy hpr hzz f1 
              go_wp2_with fail
              refine (gright_is true x y _ HQ).mono ?_
              rintro e w1 ⟨rfl, hb⟩
              obtain ⟨hc, hf, hT1, hT2, hT3, hT4, hz⟩ := bfacts (n := wr.heap.size + 1) hb (by first | (simp; done) | (simp; omega) | omega)
              have f3 : w1.cell? ⟨b, off + (k - 1) * 2 + 1, none⟩ = some (.int .i64 z) := (hc b _ (by omega)).trans ((World.cell?_alloc_lt _ _ ⟨b, _, none⟩ (by show b < _; omega)).trans f2)
              go_wp2_with fail
              go_quiet (fail)
              go_wp2
              go_ret
              exact ⟨by rw [HE.out, HZ.out]; rfl, by (repeat' (first | (with_reducible exact Below.refl _ _) | (with_reducible assumption) | (with_reducible refine below_run ?_ (by assumption)) | (with_reducible refine below_of_upd ?_ (by assumption) ?_) | (with_reducible refine below_drewN ?_ _) | (with_reducible refine Below.drew ?_) | (with_reducible refine below_seven ?_ ?_) | (with_reducible refine below_six ?_ ?_) | (with_reducible refine below_one ?_ ?_) | (with_reducible refine Below.alloc ?_ ?_ _) | (with_reducible refine below_after ?_ ?_ (by assumption)) | (show _ ≤ _; first | omega | (simp; done) | (simp; omega))))⟩
            · have HN := Lib.hid (chkG_step l k hlt2 (by rw [HXY.out]; exact hq) (.inr ⟨hkm, by rw [hzz, HXY.out]; exact ho⟩))
              clear hc' hq hx hy hpr hzz f1
              go_wp2_with fail
              refine (gright_is true x y _ HQ).mono ?_
              rintro e w1 ⟨rfl, hb⟩
              obtain ⟨hc, hf, hT1, hT2, hT3, hT4, hz⟩ := bfacts (n := wr.heap.size + 1) hb (by first | (simp; done) | (simp; omega) | omega)
              have f3 : w1.cell? ⟨b, off + (k - 1) * 2 + 1, none⟩ = some (.int .i64 z) := (hc b _ (by omega)).trans ((World.cell?_alloc_lt _ _ ⟨b, _, none⟩ (by show b < _; omega)).trans f2)
              go_wp2_with fail
              go_quiet (fail)
              go_wp2
              go_roundw
              case rel => exact ⟨k + 1, by omega, by go_num, by show _ = _; rw [HE.out, HN.out], HR', by (repeat' (first | (with_reducible exact Below.refl _ _) | (with_reducible assumption) | (with_reducible refine below_run ?_ (by assumption)) | (with_reducible refine below_of_upd ?_ (by assumption) ?_) | (with_reducible refine below_drewN ?_ _) | (with_reducible refine Below.drew ?_) | (with_reducible refine below_seven ?_ ?_) | (with_reducible refine below_six ?_ ?_) | (with_reducible refine below_one ?_ ?_) | (with_reducible refine Below.alloc ?_ ?_ _) | (with_reducible refine below_after ?_ ?_ (by assumption)) | (show _ ≤ _; first | omega | (simp; done) | (simp; omega))))⟩
              case measure => simp [intOf]; omega
      · obtain rfl : k = l.length := by omega
        go_wp2
        go_ret
        exact ⟨by rw [HE.out, List.drop_length, chkG_end]; rfl, hb0⟩
end Go.Proofs.YtndkpdiacabjgaaGreatDoor
