/-
  What is put into a set, or removed; the list of a set.
-/
import Derived.Test.YtndkpdiacabjgaaGreatDoorGc
namespace Go.Proofs.YtndkpdiacabjgaaGreatDoor
open Go.RowKit

/-- A part of a range is put. -/
def partG (q : Bool) (M : Nat → Bool) (x j : Nat) : Nat → Bool := fun c => if x ≤ c ∧ c < j then q else M c
theorem partG_zero (q : Bool) (M : Nat → Bool) (x : Nat) : partG q M x x = M := by
  funext c
  rw [partG, if_neg (by omega)]
theorem partG_all (q : Bool) (M : Nat → Bool) (x y : Nat) : partG q M x (y + 1) = putG q M ((x : Int), (y : Int)) := by
  funext c
  unfold partG putG
  by_cases h : x ≤ c ∧ c < y + 1
  · rw [if_pos h, if_pos (hasG_iff.2 (by dsimp only; omega))]
  · rw [if_neg h, if_neg (fun e => by have := hasG_iff.1 e; dsimp only at this; omega)]

theorem rng_apart {w : World} {b g o : Nat} {M : Nat → Bool} {x : Int} (h : SetAt w b M) (hc : w.cell? ⟨g, o, none⟩ = some (.int .i64 x)) : g ≠ b := by
  rintro rfl
  rw [(row_facts h).1 o] at hc
  by_cases ho : o < 1001
  · rw [cellsM_at M ho] at hc; cases hc
  · rw [Array.getElem?_eq_none (by rw [cellsM_size]; omega)] at hc; cases hc

set_option maxHeartbeats 2000000 in
set_option maxRecDepth 100000 in
theorem gput_any (b : Nat) (q : Bool) (M : Nat → Bool) (l : List (Int × Int)) (v : Value) (w : World) (hs : SetAt w b M) (h : RngsAt w v l) (hr : ∀ r ∈ l, rightG r = true) :
    Calls Tryz.prog 39 #[.pointer (some ⟨b, 0, none⟩), .bool q, v] w fun e w' => e = .returned (.tuple #[]) ∧ SetAt w' b (putsG q l M) ∧ Upd b w w' := by
  rcases h with ⟨h0, a, cap, rfl⟩ | ⟨h0, h1, g, off, cap, rfl, hlt, hc⟩
  · have hl : l = [] := List.eq_nil_of_length_eq_zero h0
    subst hl
    have HS := Lib.hid hs
    clear hs hr
    go_enter Tryz.func39, Tryz.ntmps39
    go_wp2
    refine wp_loop_rounds 1 ?_
    rw [rounds_succ]
    go_wp2
    go_end0
    exact ⟨rfl, HS.out, upd_refl _ _⟩
  · have hgb : g ≠ b := by
      have e1 := (rng_cells hc 0 h0).1
      exact rng_apart hs e1
    have HC := Lib.hid hc
    have HR := Lib.hid hr
    have HS := Lib.hid hs
    have hbl : b < w.heap.size := lt_of_block hs
    have hl1 : (l.length : Int) ≤ 140737488351232 := by omega
    clear hc h1 hr hs
    go_enter Tryz.func39, Tryz.ntmps39
    go_wp2
    go_loopw [7, 8, 11] (fun _ _ i wr => ∃ k : Nat, k ≤ l.length ∧ i = .int .i64 k ∧ Hid (SetAt wr b (putsG q (l.take k) M)) ∧ Upd b w wr) (fun _ _ i _ => l.length - (intOf i).toNat)
    case atStart => exact ⟨0, Nat.zero_le _, rfl, HS, upd_refl _ _⟩
    case round =>
      rename World => wr
      obtain ⟨k, hk, rfl, HM, hb0⟩ := hrel
      by_cases hlt2 : k < l.length
      · have hlt3 : (k : Int) < (l.length : Int) := by omega
        have hk0 : (0 : Int) ≤ (k : Int) := by omega
        have hc' : ∀ j, j < l.length * 2 → wr.cell? ⟨g, off + j, none⟩ = rngsC l j := fun j hj => (World.cell?_of_block (hb0.block g hlt (by simp [hgb]))).trans (HC.out j hj)
        obtain ⟨e1, e2⟩ := rng_cells hc' k hlt2
        have hri := rightG_iff.1 (HR.out _ (List.getElem_mem hlt2))
        have HT : Hid (l.take (k + 1) = l.take k ++ [l[k]]) := Lib.hid (List.take_succ_eq_append_getElem hlt2)
        obtain ⟨x, hx⟩ : ∃ x : Nat, l[k].1 = x := ⟨l[k].1.toNat, by omega⟩
        obtain ⟨y, hy⟩ : ∃ y : Nat, l[k].2 = y := ⟨l[k].2.toNat, by omega⟩
        have HXY : Hid (l[k] = ((x : Int), (y : Int))) := Lib.hid (by rw [← hx, ← hy])
        rw [hx] at e1
        rw [hy] at e2
        have hx1 : 1 ≤ x := by omega
        have hxy : x ≤ y := by omega
        have hy9 : y ≤ 999 := by omega
        have hsz := hb0.size
        clear hc' hri hx hy
        go_wp2
        go_loopw [8] (fun c wx => ∃ j : Nat, c = .int .i64 j ∧ x ≤ j ∧ j ≤ y + 1 ∧ Hid (SetAt wx b (partG q (putsG q (l.take k) M) x j)) ∧ RowAt wx wr.heap.size 42 #[.int .i64 x, .int .i64 y] ∧ Upd b w wx) (fun c _ => y + 1 - (intOf c).toNat)
        case atStart => exact ⟨x, rfl, Nat.le_refl _, by omega, by rw [partG_zero]; exact Lib.hid (HM.out.alloc _), RowAt.new _ _ _, upd_alloc hb0 _⟩
        case round =>
          rename World => wx
          obtain ⟨j, rfl, hj1, hj2, HP, hrow, hbx⟩ := hrel
          obtain ⟨r1, r2, r3, r4, r5, r6⟩ := row_facts hrow
          by_cases hjy : j ≤ y
          · have hjy' : (j : Int) ≤ (y : Int) := by omega
            have hj3 : (j : Int) < 1001 := by omega
            have hj4 : (0 : Int) ≤ (j : Int) := by omega
            obtain ⟨s1, s2, s3⟩ := HP.out.facts
            have s4 := s1 j (by omega)
            have s5 := s2 j
            clear s1 s2
            have HN : Hid (SetAt (wx.setCell ⟨b, j, none⟩ (.bool q)) b (partG q (putsG q (l.take k) M) x (j + 1))) := Lib.hid (HP.out.set (by omega) (by rw [partG, if_pos (by omega)]) (fun i hi => by
              unfold partG
              by_cases hh : x ≤ i ∧ i < j
              · rw [if_pos hh, if_pos (by omega)]
              · rw [if_neg hh, if_neg (by omega)]))
            go_wp2
            go_roundw
            case rel => exact ⟨j + 1, by go_num, by omega, by omega, HN, hrow.far1 (by omega), upd_set hbx _ _⟩
            case measure => simp [intOf]; omega
          · have hje : j = y + 1 := by omega
            have hjy' : ¬ (j : Int) ≤ (y : Int) := by omega
            go_wp2
            go_roundw
            case rel => exact ⟨k + 1, by omega, by go_num, by
              have := HP.out
              rw [hje, partG_all] at this
              rw [HT.out, HXY.out, putsG, List.foldl_append]
              exact Lib.hid this, hbx⟩
            case measure => simp [intOf]; omega
      · obtain rfl : k = l.length := by omega
        go_wp2
        go_end0
        exact ⟨rfl, by have := HM.out; rwa [List.take_length] at this, hb0⟩
end Go.Proofs.YtndkpdiacabjgaaGreatDoor
