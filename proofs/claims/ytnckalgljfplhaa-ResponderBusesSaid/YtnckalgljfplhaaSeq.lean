/-
  Slices of devices and of messages: what they hold.
-/
import Derived.Test.YtnckalgljfplhaaFar
import Derived.Test.YtnckalgljfplhaaLawR
namespace Go.Proofs.Ytnckalgljfplhaa
open Go.RowKit

/-- A slice value of n elements of S cells each holds the cells cs. -/
def SeqAt (w : World) (S : Nat) (v : Value) (n : Nat) (cs : Nat → Option Value) : Prop :=
  (n = 0 ∧ ∃ a cap, v = .slice a 0 cap) ∨ (0 < n ∧ n ≤ 140737488351232 ∧ ∃ b off cap, v = .slice (some ⟨b, off, none⟩) n cap ∧ b < w.heap.size ∧ ∀ j, j < n * S → w.cell? ⟨b, off + j, none⟩ = cs j)

/-- The cells of a list of devices. -/
def devsC (l : List Dev) (j : Nat) : Option Value := (l[j / 7]?).bind fun d => (devA d)[j % 7]?
/-- The cells of a list of messages. -/
def msgA (m : Msg) : Array Value := #[.int .u64 m.dst, .int .u64 m.src, .int .i64 m.seq, .int .i64 m.kind, .int .i64 m.par, .string m.dat]
def msgsC (l : List Msg) (j : Nat) : Option Value := (l[j / 6]?).bind fun d => (msgA d)[j % 6]?

/-- A slice value holds a list of devices. -/
def DevsAt (w : World) (v : Value) (l : List Dev) : Prop := SeqAt w 7 v l.length (devsC l)
def MsgsAt (w : World) (v : Value) (l : List Msg) : Prop := SeqAt w 6 v l.length (msgsC l)

theorem SeqAt.below {w w' : World} {S n : Nat} {v : Value} {cs : Nat → Option Value} (h : SeqAt w S v n cs) (hb : Below w.heap.size w w') : SeqAt w' S v n cs := by
  rcases h with h | ⟨h0, h1, b, off, cap, rfl, hlt, hc⟩
  · exact .inl h
  · exact .inr ⟨h0, h1, b, off, cap, rfl, Nat.lt_of_lt_of_le hlt hb.size, fun j hj => (hb.cell (p := ⟨b, off + j, none⟩) hlt).trans (hc j hj)⟩

theorem devsC_at (l : List Dev) (k : Nat) (hk : k < l.length) (i : Nat) (hi : i < 7) : devsC l (k * 7 + i) = (devA l[k])[i]? := by
  unfold devsC
  rw [show (k * 7 + i) / 7 = k from by omega, show (k * 7 + i) % 7 = i from by omega, List.getElem?_eq_getElem hk]
  rfl

/-- The cells of one device of a list. -/
theorem dev_cells {w : World} {b off : Nat} {l : List Dev} (hc : ∀ j, j < l.length * 7 → w.cell? ⟨b, off + j, none⟩ = devsC l j) (k : Nat) (hk : k < l.length) :
    ∃ d, l[k]? = some d ∧ w.cell? ⟨b, off + k * 7, none⟩ = some (.int .u64 d.id) ∧ w.cell? ⟨b, off + k * 7 + 1, none⟩ = some (.int .i64 d.ft) ∧ w.cell? ⟨b, off + k * 7 + 2, none⟩ = some (.int .i64 d.ad) ∧ w.cell? ⟨b, off + k * 7 + 3, none⟩ = some (.string d.lb) ∧
      w.cell? ⟨b, off + k * 7 + 4, none⟩ = some (.int .i64 d.hr) ∧ w.cell? ⟨b, off + k * 7 + 5, none⟩ = some (.bool d.mu) ∧ w.cell? ⟨b, off + k * 7 + 6, none⟩ = some (.bool d.idf) := by
  refine ⟨l[k], List.getElem?_eq_getElem hk, ?_, ?_, ?_, ?_, ?_, ?_, ?_⟩
  · rw [show off + k * 7 = off + (k * 7 + 0) from rfl, hc _ (by omega), devsC_at l k hk 0 (by decide)]; rfl
  · rw [show off + k * 7 + 1 = off + (k * 7 + 1) from rfl, hc _ (by omega), devsC_at l k hk 1 (by decide)]; rfl
  · rw [show off + k * 7 + 2 = off + (k * 7 + 2) from rfl, hc _ (by omega), devsC_at l k hk 2 (by decide)]; rfl
  · rw [show off + k * 7 + 3 = off + (k * 7 + 3) from rfl, hc _ (by omega), devsC_at l k hk 3 (by decide)]; rfl
  · rw [show off + k * 7 + 4 = off + (k * 7 + 4) from rfl, hc _ (by omega), devsC_at l k hk 4 (by decide)]; rfl
  · rw [show off + k * 7 + 5 = off + (k * 7 + 5) from rfl, hc _ (by omega), devsC_at l k hk 5 (by decide)]; rfl
  · rw [show off + k * 7 + 6 = off + (k * 7 + 6) from rfl, hc _ (by omega), devsC_at l k hk 6 (by decide)]; rfl

theorem take_succ_some {α : Type} {l : List α} {k : Nat} {d : α} (h : l[k]? = some d) : l.take (k + 1) = l.take k ++ [d] := by
  rw [List.take_add_one, h]
  rfl

set_option maxHeartbeats 1000000 in
set_option maxRecDepth 100000 in
theorem fewall_any (v : Value) (l : List Dev) (w : World) (hv : DevsAt w v l) :
    Calls Try.prog 32 #[v] w fun e w' => e = .returned (.bool (decide (l.length ≤ 128) && l.all fun d => decide (d.lb.size ≤ 100))) ∧ Below w.heap.size w w' := by
  rcases hv with ⟨h0, a, cap, rfl⟩ | ⟨h0, h1, b, off, cap, rfl, hlt, hc⟩
  · have hl : l = [] := List.eq_nil_of_length_eq_zero h0
    subst hl
    go_enter Try.func32, Try.ntmps32
    go_wp2
    refine wp_loop_rounds 1 ?_
    rw [rounds_succ]
    go_wp2
    go_ret
    exact ⟨rfl, by (repeat' (first | (with_reducible exact Below.refl _ _) | (with_reducible assumption) | (with_reducible refine below_run ?_ (by assumption)) | (with_reducible refine below_of_upd ?_ (by assumption) ?_) | (with_reducible refine below_drewN ?_ _) | (with_reducible refine Below.drew ?_) | (with_reducible refine below_seven ?_ ?_) | (with_reducible refine below_six ?_ ?_) | (with_reducible refine below_one ?_ ?_) | (with_reducible refine Below.alloc ?_ ?_ _) | (with_reducible refine below_after ?_ ?_ (by assumption)) | (show _ ≤ _; first | omega | (simp; done) | (simp; omega))))⟩
  · by_cases h2 : l.length ≤ 128
    · have h3 : (l.length : Int) ≤ 128 := by omega
      have h4 : (0 : Int) < (l.length : Int) := by omega
      go_enter Try.func32, Try.ntmps32
      go_wp2
      go_loopw [3] (fun i wr => ∃ k : Nat, k ≤ l.length ∧ i = .int .i64 k ∧ Hid ((l.take k).all (fun d => decide (d.lb.size ≤ 100)) = true) ∧ Below w.heap.size w wr) (fun i _ => l.length - (intOf i).toNat)
      case atStart => exact ⟨0, Nat.zero_le _, rfl, by simp [Hid], Below.refl _ _⟩
      case round =>
        obtain ⟨k, hk, rfl, hall, hb0⟩ := hrel
        by_cases hlt2 : k < l.length
        · have hlt3 : (k : Int) < (l.length : Int) := by omega
          have hc' : ∀ j, j < l.length * 7 → wr.cell? ⟨b, off + j, none⟩ = devsC l j := fun j hj => (hb0.cell (p := ⟨b, off + j, none⟩) hlt).trans (hc j hj)
          obtain ⟨d, hd, e0, e1, e2, e3, e4, e5, e6⟩ := dev_cells hc' k hlt2
          obtain ⟨q, hq⟩ : ∃ q, decide (d.lb.size ≤ 100) = q := ⟨_, rfl⟩
          have HQ := Lib.hid hq
          have HD := Lib.hid hd
          have hts := take_succ_some hd
          have HT := Lib.hid hts
          clear hc hc' hq hd hts
          cases q
          · go_wp2_with fail
            refine (few_is false _ _ _ _ _ _ _ _ HQ).mono ?_
            rintro e w1 ⟨rfl, hb⟩
            go_wp2
            go_ret
            refine ⟨ret_bool ?_, by (repeat' (first | (with_reducible exact Below.refl _ _) | (with_reducible assumption) | (with_reducible refine below_run ?_ (by assumption)) | (with_reducible refine below_of_upd ?_ (by assumption) ?_) | (with_reducible refine below_drewN ?_ _) | (with_reducible refine Below.drew ?_) | (with_reducible refine below_seven ?_ ?_) | (with_reducible refine below_six ?_ ?_) | (with_reducible refine below_one ?_ ?_) | (with_reducible refine Below.alloc ?_ ?_ _) | (with_reducible refine below_after ?_ ?_ (by assumption)) | (show _ ≤ _; first | omega | (simp; done) | (simp; omega))))⟩
            have hm : d ∈ l := List.mem_of_getElem? HD.out
            have : (l.all fun d => decide (d.lb.size ≤ 100)) = false := by
              rw [List.all_eq_false]
              exact ⟨d, hm, by rw [HQ.out]; decide⟩
            rw [this]; simp
          · go_wp2_with fail
            refine (few_is true _ _ _ _ _ _ _ _ HQ).mono ?_
            rintro e w1 ⟨rfl, hb⟩
            go_wp2
            go_roundw
            case rel => exact ⟨k + 1, by omega, by go_num, by show _ = true; rw [HT.out, List.all_append, hall.out]; simp [HQ.out], by (repeat' (first | (with_reducible exact Below.refl _ _) | (with_reducible assumption) | (with_reducible refine below_run ?_ (by assumption)) | (with_reducible refine below_of_upd ?_ (by assumption) ?_) | (with_reducible refine below_drewN ?_ _) | (with_reducible refine Below.drew ?_) | (with_reducible refine below_seven ?_ ?_) | (with_reducible refine below_six ?_ ?_) | (with_reducible refine below_one ?_ ?_) | (with_reducible refine Below.alloc ?_ ?_ _) | (with_reducible refine below_after ?_ ?_ (by assumption)) | (show _ ≤ _; first | omega | (simp; done) | (simp; omega))))⟩
            case measure => simp [intOf]; omega
        · obtain rfl : k = l.length := by omega
          go_wp2
          go_ret
          refine ⟨ret_bool ?_, hb0⟩
          have := hall.out
          rw [List.take_length] at this
          rw [this]; simp [h2]
    · have h3 : 128 < (l.length : Int) := by omega
      go_enter Try.func32, Try.ntmps32
      go_wp2
      go_ret
      exact ⟨ret_bool (by simp [h2]), by (repeat' (first | (with_reducible exact Below.refl _ _) | (with_reducible assumption) | (with_reducible refine below_run ?_ (by assumption)) | (with_reducible refine below_of_upd ?_ (by assumption) ?_) | (with_reducible refine below_drewN ?_ _) | (with_reducible refine Below.drew ?_) | (with_reducible refine below_seven ?_ ?_) | (with_reducible refine below_six ?_ ?_) | (with_reducible refine below_one ?_ ?_) | (with_reducible refine Below.alloc ?_ ?_ _) | (with_reducible refine below_after ?_ ?_ (by assumption)) | (show _ ≤ _; first | omega | (simp; done) | (simp; omega))))⟩

end Go.Proofs.Ytnckalgljfplhaa
