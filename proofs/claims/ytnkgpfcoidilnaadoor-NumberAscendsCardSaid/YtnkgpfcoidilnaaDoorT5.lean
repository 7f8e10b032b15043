/-
  The walk of the law on lists that ascend.
-/
import Derived.Test.YtnkgpfcoidilnaaDoorR5
namespace Go.Proofs.YtnkgpfcoidilnaaDoor
open Go.RowKit

theorem StrsAt.run {w w' : World} {v : Value} {l : List ByteArray} (h : StrsAt w v l) (hb : Below w.heap.size w w') : StrsAt w' v l := SeqAt.below h hb

set_option maxHeartbeats 2000000 in
set_option maxRecDepth 100000 in
theorem law_ascends (v : Value) (l : List ByteArray) (w : World) (hp : Pow w) (hv : StrsAt w v l) :
    Calls Tryd.prog 9 #[v] w fun e w' => e = .returned (.bool true) ∧ Below w.heap.size w w' := by
  have HP := Lib.hid hp
  have HV := Lib.hid hv
  clear hp
  rcases hv with ⟨h0, a, cap, rfl⟩ | ⟨h0, h1, b, off, cap, rfl, hlt, hc⟩
  · have hl : l = [] := List.eq_nil_of_length_eq_zero h0
    subst hl
    have C1 := Lib.hid (fun W h => asc5_any (.slice a 0 cap) [] W h (fun s hs => by cases hs))
    have C2 := Lib.hid (fun W h => rasc5_any (.slice a 0 cap) [] W h (fun s hs => by cases hs))
    go_enter Tryd.func9, Tryd.ntmps9
    go_wp2
    refine wp_loop_rounds 1 ?_
    rw [rounds_succ]
    go_wp2_with fail
    refine (awake5_any _ HP.out).mono ?_
    rintro e w1 ⟨rfl, hb1⟩
    go_wp2_with fail
    refine (C1.out _ (HV.out.run hb1)).mono ?_
    rintro e w2 ⟨rfl, hb2⟩
    have B2 := below_run hb1 hb2
    go_wp2_with fail
    refine (C2.out _ (HV.out.run B2)).mono ?_
    rintro e w3 ⟨rfl, hb3⟩
    go_wp2
    go_ret
    exact ⟨rfl, below_run B2 hb3⟩
  · have h4 : (0 : Int) < (l.length : Int) := by omega
    by_cases hl : l.length ≤ 100
    · have hl1 : ¬ (100 : Int) < (l.length : Int) := by omega
      go_enter Tryd.func9, Tryd.ntmps9
      go_wp2
      go_loopw [11] (fun i wr => ∃ k : Nat, k ≤ l.length ∧ i = .int .i64 k ∧ Hid (∀ s ∈ l.take k, s.size ≤ 400) ∧ Below w.heap.size w wr) (fun i _ => l.length - (intOf i).toNat)
      case atStart => exact ⟨0, Nat.zero_le _, rfl, fun s hs => by simp at hs, by (repeat' (first | (with_reducible exact Below.refl _ _) | (with_reducible assumption) | (with_reducible refine below_drewN ?_ _) | (with_reducible refine Below.drew ?_) | (with_reducible refine Below.setCell ?_ ?_ _) | (with_reducible refine Below.alloc ?_ ?_ _) | (with_reducible refine below_after ?_ ?_ (by assumption)) | (show _ ≤ _; first | omega | (simp; done) | (simp; omega))))⟩
      case round =>
        obtain ⟨k, hk, rfl, hall, hb0⟩ := hrel
        have HPr := Lib.hid (HP.out.run hb0)
        by_cases hlt2 : k < l.length
        · have hlt3 : (k : Int) < (l.length : Int) := by omega
          have hc' : ∀ j, j < l.length * 1 → wr.cell? ⟨b, off + j, none⟩ = strsC l j := fun j hj => (hb0.cell (p := ⟨b, off + j, none⟩) hlt).trans (hc j hj)
          obtain ⟨s, hsk, e0⟩ := str_cell hc' k hlt2
          have HK := Lib.hid hsk
          clear hc hc' hsk
          by_cases hs : s.size ≤ 400
          · have hs1 : ¬ (400 : Int) < (s.size : Int) := by omega
            have HA : Hid (∀ x ∈ l.take (k + 1), x.size ≤ 400) := fun x hx => by
              rw [take_succ_some HK.out, List.mem_append, List.mem_singleton] at hx
              rcases hx with hx | rfl
              · exact hall.out x hx
              · exact hs
            clear hs
            go_wp2
            go_roundw
            case rel => exact ⟨k + 1, by omega, by go_num, HA.out, hb0⟩
            case measure => simp [intOf]; omega
          · have hs1 : (400 : Int) < (s.size : Int) := by omega
            clear hs
            go_wp2_with fail
            refine (awake5_any _ HPr.out).mono ?_
            rintro e w1 ⟨rfl, hb1⟩
            go_wp2
            go_ret
            exact ⟨rfl, below_run hb0 hb1⟩
        · obtain rfl : k = l.length := by omega
          rw [List.take_length] at hall
          have C1 := Lib.hid (fun W h => asc5_any (.slice (some ⟨b, off, none⟩) l.length cap) l W h (fun s hs => by have := hall.out s hs; omega))
          have C2 := Lib.hid (fun W h => rasc5_any (.slice (some ⟨b, off, none⟩) l.length cap) l W h (fun s hs => by have := hall.out s hs; omega))
          clear hc
          go_wp2_with fail
          refine (awake5_any _ HPr.out).mono ?_
          rintro e w1 ⟨rfl, hb1⟩
          have B1 := below_run hb0 hb1
          go_wp2_with fail
          refine (C1.out _ (HV.out.run B1)).mono ?_
          rintro e w2 ⟨rfl, hb2⟩
          have B2 := below_run B1 hb2
          go_wp2_with fail
          refine (C2.out _ (HV.out.run B2)).mono ?_
          rintro e w3 ⟨rfl, hb3⟩
          go_wp2
          go_ret
          exact ⟨rfl, below_run B2 hb3⟩
    · have hl1 : (100 : Int) < (l.length : Int) := by omega
      clear hl hc
      go_enter Tryd.func9, Tryd.ntmps9
      go_wp2_with fail
      refine (awake5_any _ HP.out).mono ?_
      rintro e w1 ⟨rfl, hb1⟩
      go_wp2
      go_ret
      exact ⟨rfl, hb1⟩
end Go.Proofs.YtnkgpfcoidilnaaDoor
