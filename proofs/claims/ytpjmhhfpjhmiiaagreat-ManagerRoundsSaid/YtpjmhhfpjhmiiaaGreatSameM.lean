/-
  Two lists of messages compared.
-/
import Derived.Test.YtpjmhhfpjhmiiaaGreatSame
namespace Go.Proofs.YtpjmhhfpjhmiiaaGreat
open Go.RowKit

set_option maxHeartbeats 1000000 in
set_option maxRecDepth 100000 in
theorem samemsg_any (v u : Value) (l : List Msg) (w : World) (hv : MsgsAt w v l) (hu : MsgsAt w u l) :
    Calls Tryz.prog 36 #[v, u] w fun e w' => e = .returned (.bool true) ∧ Below w.heap.size w w' := by
  rcases hv with ⟨h0, a, cap, rfl⟩ | ⟨h0, h1, b, off, cap, rfl, hlt, hc⟩
  · have hl : l = [] := List.eq_nil_of_length_eq_zero h0
    subst hl
    rcases hu with ⟨_, a', cap', rfl⟩ | ⟨g0, _⟩
    · go_enter Tryz.func36, Tryz.ntmps36
      go_wp2
      refine wp_loop_rounds 1 ?_
      rw [rounds_succ]
      go_wp2
      go_ret
      exact ⟨rfl, by (repeat' (first | (with_reducible exact Below.refl _ _) | (with_reducible assumption) | (with_reducible refine below_run ?_ (by assumption)) | (with_reducible refine below_of_upd ?_ (by assumption) ?_) | (with_reducible refine below_drewN ?_ _) | (with_reducible refine Below.drew ?_) | (with_reducible refine below_seven ?_ ?_) | (with_reducible refine below_six ?_ ?_) | (with_reducible refine below_one ?_ ?_) | (with_reducible refine Below.alloc ?_ ?_ _) | (with_reducible refine below_after ?_ ?_ (by assumption)) | (show _ ≤ _; first | omega | (simp; done) | (simp; omega))))⟩
    · simp at g0
  · rcases hu with ⟨g0, _⟩ | ⟨_, _, b', off', cap', rfl, hlt', hc'⟩
    · omega
    · have h3 : (l.length : Int) ≤ 140737488351232 := by omega
      have h4 : (0 : Int) < (l.length : Int) := by omega
      have h5 : ((l.length : Int) != (l.length : Int)) = false := by simp
      go_enter Tryz.func36, Tryz.ntmps36
      go_wp2
      go_loopw [5] (fun i wr => ∃ k : Nat, k ≤ l.length ∧ i = .int .i64 k ∧ Below w.heap.size w wr) (fun i _ => l.length - (intOf i).toNat)
      case atStart => exact ⟨0, Nat.zero_le _, rfl, Below.refl _ _⟩
      case round =>
        obtain ⟨k, hk, rfl, hb0⟩ := hrel
        by_cases hlt2 : k < l.length
        · have hlt3 : (k : Int) < (l.length : Int) := by omega
          have hk0 : (0 : Int) ≤ (k : Int) := by omega
          have hw1 : ∀ j, j < l.length * 6 → wr.cell? ⟨b, off + j, none⟩ = msgsC l j := fun j hj => (hb0.cell (p := ⟨b, off + j, none⟩) hlt).trans (hc j hj)
          have hw2 : ∀ j, j < l.length * 6 → wr.cell? ⟨b', off' + j, none⟩ = msgsC l j := fun j hj => (hb0.cell (p := ⟨b', off' + j, none⟩) hlt').trans (hc' j hj)
          obtain ⟨d, hd, e0, e1, e2, e3, e4, e5⟩ := msg_cells hw1 k hlt2
          obtain ⟨d', hd', f0, f1, f2, f3, f4, f5⟩ := msg_cells hw2 k hlt2
          rw [hd] at hd'
          simp only [Option.some.injEq] at hd'
          subst hd'
          clear hc hc' hw1 hw2 hd
          go_wp2
          go_quiet (fail)
          go_wp2
          go_roundw
          case rel => exact ⟨k + 1, by omega, by go_num, by (repeat' (first | (with_reducible exact Below.refl _ _) | (with_reducible assumption) | (with_reducible refine below_run ?_ (by assumption)) | (with_reducible refine below_of_upd ?_ (by assumption) ?_) | (with_reducible refine below_drewN ?_ _) | (with_reducible refine Below.drew ?_) | (with_reducible refine below_seven ?_ ?_) | (with_reducible refine below_six ?_ ?_) | (with_reducible refine below_one ?_ ?_) | (with_reducible refine Below.alloc ?_ ?_ _) | (with_reducible refine below_after ?_ ?_ (by assumption)) | (show _ ≤ _; first | omega | (simp; done) | (simp; omega))))⟩
          case measure => simp [intOf]; omega
        · obtain rfl : k = l.length := by omega
          go_wp2
          go_ret
          exact ⟨rfl, hb0⟩

end Go.Proofs.YtpjmhhfpjhmiiaaGreat
