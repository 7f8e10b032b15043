/-
  The reference's Known.
-/
import Derived.Test.YtiemdccjphdbmaaGreatRf
import Derived.Test.YtiemdccjphdbmaaGreatKn
namespace Go.Proofs.YtiemdccjphdbmaaGreat
open Go.RowKit

theorem rholds_is (p : Bool) (v : Value) (l : List Int) (x : Int) (w : World) (hv : IdsAt w v l) (h : decide (x ∈ l) = p) : Calls Tryz.prog 54 #[v, .int .u64 x] w fun e w' => e = .returned (.bool p) ∧ Below w.heap.size w w' := by
  have := rholds_any v l x w hv
  rw [h] at this
  exact this

set_option maxHeartbeats 4000000 in
set_option maxRecDepth 100000 in
theorem rknown_any (v : Value) (k : List Int) (w : World) (hv : IdsAt w v k) (hcap : CapOk v) :
    Calls Tryz.prog 31 #[v] w fun e w' => e = .returned (.int .i64 (knownE k)) ∧ Below w.heap.size w w' := by
  rcases hv with ⟨h0, a, cap, rfl⟩ | ⟨h0, h1, b, off, cap, rfl, hlt, hc⟩
  · have hl : k = [] := List.eq_nil_of_length_eq_zero h0
    subst hl
    go_enter Tryz.func31, Tryz.ntmps31
    go_wp2
    refine wp_loop_rounds 1 ?_
    rw [rounds_succ]
    go_wp2
    go_ret
    exact ⟨rfl, by (repeat' (first | (with_reducible exact Below.refl _ _) | (with_reducible assumption) | (with_reducible refine below_run ?_ (by assumption)) | (with_reducible refine below_of_upd ?_ (by assumption) ?_) | (with_reducible refine below_drewN ?_ _) | (with_reducible refine Below.drew ?_) | (with_reducible refine below_seven ?_ ?_) | (with_reducible refine below_six ?_ ?_) | (with_reducible refine below_one ?_ ?_) | (with_reducible refine Below.alloc ?_ ?_ _) | (with_reducible refine below_after ?_ ?_ (by assumption)) | (show _ ≤ _; first | omega | (simp; done) | (simp; omega))))⟩
  · by_cases h64 : 64 < k.length
    · have h64' : (64 : Int) < (k.length : Int) := by omega
      have HE := Lib.hid (show knownE k = 5 by rw [knownE, if_pos h64])
      clear h64
      go_enter Tryz.func31, Tryz.ntmps31
      go_wp2
      go_ret
      exact ⟨ret_int (by rw [HE.out]), Below.refl _ _⟩
    · have h64' : (k.length : Int) ≤ 64 := by omega
      have h4 : (0 : Int) < (k.length : Int) := by omega
      have HE := Lib.hid (show knownE k = knE [] k by rw [knownE, if_neg h64])
      clear h64
      go_enter Tryz.func31, Tryz.ntmps31
      go_wp2
      go_loopw [3] (fun i wr => ∃ j : Nat, j ≤ k.length ∧ i = .int .i64 j ∧ Hid (knE [] k = knE (k.take j) (k.drop j)) ∧ Below w.heap.size w wr) (fun i _ => k.length - (intOf i).toNat)
      case atStart => exact ⟨0, Nat.zero_le _, rfl, rfl, Below.refl _ _⟩
      case round =>
        obtain ⟨j, hj, rfl, hE2, hbr⟩ := hrel
        by_cases hlt2 : j < k.length
        · have hlt3 : (j : Int) < (k.length : Int) := by omega
          have hj0 : (0 : Int) ≤ (j : Int) := by omega
          have hj1 : (j : Int) ≤ (k.length : Int) := by omega
          have hj2 : (j : Int) ≤ (cap : Int) := by have := hcap _ _ _ rfl; omega
          have hblt : b < wr.heap.size := by have := hbr.size; omega
          have hcel : ∀ i, i < k.length * 1 → wr.cell? ⟨b, off + i, none⟩ = u64C k i := fun i hi => (hbr.cell (p := ⟨b, off + i, none⟩) hlt).trans (hc i hi)
          obtain ⟨x, hx, e0⟩ := id_cell hcel j hlt2
          have HX := Lib.hid hx
          have HPT := Lib.hid (fun (W : World) (h : Below wr.heap.size wr W) (cp : Nat) => (IdsAt.part (cap := cp) hblt (by omega) hcel (show j ≤ k.length by omega)).run h)
          obtain ⟨q, hq⟩ : ∃ q, isId x = q := ⟨_, rfl⟩
          have CI := Lib.hid (Is_is q x hq)
          have HQ := Lib.hid hq
          clear hx hcel hq hc
          go_wp2_with fail
          refine (CI.out _).mono ?_
          rintro e w2 ⟨rfl, rfl⟩
          cases q with
          | false =>
            go_wp2
            go_ret
            exact ⟨ret_int (by rw [HE.out, hE2.out, drop_int HX.out, kn_bad HQ.out]), hbr⟩
          | true =>
            obtain ⟨p, hp⟩ : ∃ p, decide (x ∈ k.take j) = p := ⟨_, rfl⟩
            have HP := Lib.hid hp
            have CH := Lib.hid (fun V W h => rholds_is p V (k.take j) x W h hp)
            clear hp
            go_upto_region 8 with fail
            go_region_held3 (fun w' => w'.cell? ⟨b, off + j, none⟩ = some (.int .u64 x)) (go_keep) (first | (go_at_call 54; refine (CH.out _ _ (HPT.out _ (by first | exact Below.refl _ _ | exact (Below.refl _ _).drew) _)).mono ?_; rintro e w3 ⟨rfl, hb30⟩; have hb3 : Below wr.heap.size wr w3 := (by first | exact hb30 | exact below_undrew hb30); have e3 : w3.cell? ⟨b, off + j, none⟩ = some (.int .u64 x) := (hb3.cell (p := ⟨b, off + j, none⟩) hblt).trans e0; clear hb30))
            all_goals
              have hb13 := below_run hbr hb3
              cases p with
              | true =>
                go_wp2
                go_ret
                exact ⟨ret_int (by rw [HE.out, hE2.out, drop_int HX.out, kn_twice HQ.out (of_decide_eq_true HP.out)]), hb13⟩
              | false =>
                go_wp2
                go_roundw
                case rel => exact ⟨j + 1, by omega, by go_num, by show knE [] k = _; rw [hE2.out, drop_int HX.out, kn_on HQ.out (of_decide_eq_false HP.out), take_succ_some HX.out], hb13⟩
                case measure => simp [intOf]; omega
        · obtain rfl : j = k.length := by omega
          go_wp2
          go_ret
          exact ⟨ret_int (by rw [HE.out, hE2.out, List.drop_length]; rfl), hbr⟩
end Go.Proofs.YtiemdccjphdbmaaGreat
