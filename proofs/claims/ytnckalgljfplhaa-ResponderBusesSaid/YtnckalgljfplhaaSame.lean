/-
  The reference's comparing of lists: equal lists are the same.
-/
import Derived.Test.YtnckalgljfplhaaDevs
import Derived.Laws.StructEq
namespace Go.Proofs.Ytnckalgljfplhaa
open Go.RowKit

theorem DevsAt.below {w w' : World} {v : Value} {l : List Dev} (h : DevsAt w v l) (hb : Below w.heap.size w w') : DevsAt w' v l := SeqAt.below h hb
theorem MsgsAt.below {w w' : World} {v : Value} {l : List Msg} (h : MsgsAt w v l) (hb : Below w.heap.size w w') : MsgsAt w' v l := SeqAt.below h hb
theorem SeqAt.alloc {w : World} {S n : Nat} {v : Value} {cs : Nat → Option Value} (h : SeqAt w S v n cs) (o : Obj) : SeqAt (w.alloc o) S v n cs := h.below ((Below.refl _ _).alloc (Nat.le_refl _) _)

theorem msgsC_at (l : List Msg) (k : Nat) (hk : k < l.length) (i : Nat) (hi : i < 6) : msgsC l (k * 6 + i) = (msgA l[k])[i]? := by
  unfold msgsC
  rw [show (k * 6 + i) / 6 = k from by omega, show (k * 6 + i) % 6 = i from by omega, List.getElem?_eq_getElem hk]
  rfl
theorem msg_cells {w : World} {b off : Nat} {l : List Msg} (hc : ∀ j, j < l.length * 6 → w.cell? ⟨b, off + j, none⟩ = msgsC l j) (k : Nat) (hk : k < l.length) :
    ∃ d, l[k]? = some d ∧ w.cell? ⟨b, off + k * 6, none⟩ = some (.int .u64 d.dst) ∧ w.cell? ⟨b, off + k * 6 + 1, none⟩ = some (.int .u64 d.src) ∧ w.cell? ⟨b, off + k * 6 + 2, none⟩ = some (.int .i64 d.seq) ∧ w.cell? ⟨b, off + k * 6 + 3, none⟩ = some (.int .i64 d.kind) ∧
      w.cell? ⟨b, off + k * 6 + 4, none⟩ = some (.int .i64 d.par) ∧ w.cell? ⟨b, off + k * 6 + 5, none⟩ = some (.string d.dat) := by
  refine ⟨l[k], List.getElem?_eq_getElem hk, ?_, ?_, ?_, ?_, ?_, ?_⟩
  · rw [show off + k * 6 = off + (k * 6 + 0) from rfl, hc _ (by omega), msgsC_at l k hk 0 (by decide)]; rfl
  · rw [show off + k * 6 + 1 = off + (k * 6 + 1) from rfl, hc _ (by omega), msgsC_at l k hk 1 (by decide)]; rfl
  · rw [show off + k * 6 + 2 = off + (k * 6 + 2) from rfl, hc _ (by omega), msgsC_at l k hk 2 (by decide)]; rfl
  · rw [show off + k * 6 + 3 = off + (k * 6 + 3) from rfl, hc _ (by omega), msgsC_at l k hk 3 (by decide)]; rfl
  · rw [show off + k * 6 + 4 = off + (k * 6 + 4) from rfl, hc _ (by omega), msgsC_at l k hk 4 (by decide)]; rfl
  · rw [show off + k * 6 + 5 = off + (k * 6 + 5) from rfl, hc _ (by omega), msgsC_at l k hk 5 (by decide)]; rfl

set_option maxHeartbeats 1000000 in
set_option maxRecDepth 100000 in
theorem same_any (v u : Value) (l : List Dev) (w : World) (hv : DevsAt w v l) (hu : DevsAt w u l) :
    Calls Try.prog 36 #[v, u] w fun e w' => e = .returned (.bool true) ∧ Below w.heap.size w w' := by
  rcases hv with ⟨h0, a, cap, rfl⟩ | ⟨h0, h1, b, off, cap, rfl, hlt, hc⟩
  · have hl : l = [] := List.eq_nil_of_length_eq_zero h0
    subst hl
    rcases hu with ⟨_, a', cap', rfl⟩ | ⟨g0, _⟩
    · go_enter Try.func36, Try.ntmps36
      go_wp2
      refine wp_loop_rounds 1 ?_
      rw [rounds_succ]
      go_wp2
      go_ret
      exact ⟨rfl, by (repeat' (first | (with_reducible exact Below.refl _ _) | (with_reducible assumption) | (with_reducible refine below_run ?_ (by assumption)) | (with_reducible refine below_of_upd ?_ (by assumption) ?_) | (with_reducible refine below_drewN ?_ _) | (with_reducible refine Below.drew ?_) | (with_reducible refine below_seven ?_ ?_) | (with_reducible refine below_six ?_ ?_) | (with_reducible refine below_one ?_ ?_) | (with_reducible refine Below.alloc ?_ ?_ _) | (with_reducible refine below_after ?_ ?_ (by assumption)) | (show _ ≤ _; first | omega | (simp; done) | (simp; omega))))⟩
    · simp at g0
  · rcases hu with ⟨g0, _⟩ | ⟨_, _, b', off', cap', rfl, hlt', hc'⟩
    · omega
    · have h3 : (l.length : Int) ≤ 140737488351232 := by omega
      have h4 : (0 : Int) < (l.length : Int) := by omega
      have h5 : ((l.length : Int) != (l.length : Int)) = false := by simp
      go_enter Try.func36, Try.ntmps36
      go_wp2
      go_loopw [5] (fun i wr => ∃ k : Nat, k ≤ l.length ∧ i = .int .i64 k ∧ Below w.heap.size w wr) (fun i _ => l.length - (intOf i).toNat)
      case atStart => exact ⟨0, Nat.zero_le _, rfl, Below.refl _ _⟩
      case round =>
        obtain ⟨k, hk, rfl, hb0⟩ := hrel
        by_cases hlt2 : k < l.length
        · have hlt3 : (k : Int) < (l.length : Int) := by omega
          have hk0 : (0 : Int) ≤ (k : Int) := by omega
          have hw1 : ∀ j, j < l.length * 7 → wr.cell? ⟨b, off + j, none⟩ = devsC l j := fun j hj => (hb0.cell (p := ⟨b, off + j, none⟩) hlt).trans (hc j hj)
          have hw2 : ∀ j, j < l.length * 7 → wr.cell? ⟨b', off' + j, none⟩ = devsC l j := fun j hj => (hb0.cell (p := ⟨b', off' + j, none⟩) hlt').trans (hc' j hj)
          obtain ⟨d, hd, e0, e1, e2, e3, e4, e5, e6⟩ := dev_cells hw1 k hlt2
          obtain ⟨d', hd', f0, f1, f2, f3, f4, f5, f6⟩ := dev_cells hw2 k hlt2
          rw [hd] at hd'
          simp only [Option.some.injEq] at hd'
          subst hd'
          clear hc hc' hw1 hw2 hd
          go_wp2
          go_quiet (fail)
          go_wp2
          go_roundw
          case rel => exact ⟨k + 1, by omega, by go_num, by (repeat' (first | (with_reducible exact Below.refl _ _) | (with_reducible assumption) | (with_reducible refine below_run ?_ (by assumption)) | (with_reducible refine below_of_upd ?_ (by assumption) ?_) | (with_reducible refine below_drewN ?_ _) | (with_reducible refine Below.drew ?_) | (with_reducible refine below_seven ?_ ?_) | (with_reducible refine below_six ?_ ?_) | (with_reducible refine below_one ?_ ?_) | (with_reducible refine Below.alloc ?_ ?_ _) | (with_reducible refine below_after ?_ ?_ (by assumption)) | (show _ ≤ _; first | omega | (simp; done) | (simp; omega))))⟩
          case measure => simp [intOf]; omega
        · obtain rfl : k = l.length := by omega
          go_wp2
          go_ret
          exact ⟨rfl, hb0⟩

set_option maxHeartbeats 1000000 in
set_option maxRecDepth 100000 in
theorem samemsg_any (v u : Value) (l : List Msg) (w : World) (hv : MsgsAt w v l) (hu : MsgsAt w u l) :
    Calls Try.prog 37 #[v, u] w fun e w' => e = .returned (.bool true) ∧ Below w.heap.size w w' := by
  rcases hv with ⟨h0, a, cap, rfl⟩ | ⟨h0, h1, b, off, cap, rfl, hlt, hc⟩
  · have hl : l = [] := List.eq_nil_of_length_eq_zero h0
    subst hl
    rcases hu with ⟨_, a', cap', rfl⟩ | ⟨g0, _⟩
    · go_enter Try.func37, Try.ntmps37
      go_wp2
      refine wp_loop_rounds 1 ?_
      rw [rounds_succ]
      go_wp2
      go_ret
      exact ⟨rfl, by (repeat' (first | (with_reducible exact Below.refl _ _) | (with_reducible assumption) | (with_reducible refine below_run ?_ (by assumption)) | (with_reducible refine below_of_upd ?_ (by assumption) ?_) | (with_reducible refine below_drewN ?_ _) | (with_reducible refine Below.drew ?_) | (with_reducible refine below_seven ?_ ?_) | (with_reducible refine below_six ?_ ?_) | (with_reducible refine below_one ?_ ?_) | (with_reducible refine Below.alloc ?_ ?_ _) | (with_reducible refine below_after ?_ ?_ (by assumption)) | (show _ ≤ _; first | omega | (simp; done) | (simp; omega))))⟩
    · simp at g0
  · rcases hu with ⟨g0, _⟩ | ⟨_, _, b', off', cap', rfl, hlt', hc'⟩
    · omega
    · have h3 : (l.length : Int) ≤ 140737488351232 := by omega
      have h4 : (0 : Int) < (l.length : Int) := by omega
      have h5 : ((l.length : Int) != (l.length : Int)) = false := by simp
      go_enter Try.func37, Try.ntmps37
      go_wp2
      go_loopw [5] (fun i wr => ∃ k : Nat, k ≤ l.length ∧ i = .int .i64 k ∧ Below w.heap.size w wr) (fun i _ => l.length - (intOf i).toNat)
      case atStart => exact ⟨0, Nat.zero_le _, rfl, Below.refl _ _⟩
      case round =>
        obtain ⟨k, hk, rfl, hb0⟩ := hrel
        by_cases hlt2 : k < l.length
        · have hlt3 : (k : Int) < (l.length : Int) := by omega
          have hk0 : (0 : Int) ≤ (k : Int) := by omega
          have hw1 : ∀ j, j < l.length * 6 → wr.cell? ⟨b, off + j, none⟩ = msgsC l j := fun j hj => (hb0.cell (p := ⟨b, off + j, none⟩) hlt).trans (hc j hj)
          have hw2 : ∀ j, j < l.length * 6 → wr.cell? ⟨b', off' + j, none⟩ = msgsC l j := fun j hj => (hb0.cell (p := ⟨b', off' + j, none⟩) hlt').trans (hc' j hj)
          obtain ⟨d, hd, e0, e1, e2, e3, e4, e5⟩ := msg_cells hw1 k hlt2
          obtain ⟨d', hd', f0, f1, f2, f3, f4, f5⟩ := msg_cells hw2 k hlt2
          rw [hd] at hd'
          simp only [Option.some.injEq] at hd'
          subst hd'
          clear hc hc' hw1 hw2 hd
          go_wp2
          go_quiet (fail)
          go_wp2
          go_roundw
          case rel => exact ⟨k + 1, by omega, by go_num, by (repeat' (first | (with_reducible exact Below.refl _ _) | (with_reducible assumption) | (with_reducible refine below_run ?_ (by assumption)) | (with_reducible refine below_of_upd ?_ (by assumption) ?_) | (with_reducible refine below_drewN ?_ _) | (with_reducible refine Below.drew ?_) | (with_reducible refine below_seven ?_ ?_) | (with_reducible refine below_six ?_ ?_) | (with_reducible refine below_one ?_ ?_) | (with_reducible refine Below.alloc ?_ ?_ _) | (with_reducible refine below_after ?_ ?_ (by assumption)) | (show _ ≤ _; first | omega | (simp; done) | (simp; omega))))⟩
          case measure => simp [intOf]; omega
        · obtain rfl : k = l.length := by omega
          go_wp2
          go_ret
          exact ⟨rfl, hb0⟩

end Go.Proofs.Ytnckalgljfplhaa
