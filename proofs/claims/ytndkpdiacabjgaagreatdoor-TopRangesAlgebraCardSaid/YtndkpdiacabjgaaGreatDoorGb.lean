/-
  Slices of ranges and the row of a set: what they hold.
-/
import Derived.Test.YtndkpdiacabjgaaGreatDoorFar
import Derived.Test.YtndkpdiacabjgaaGreatDoorSeqs
import Derived.Test.YtndkpdiacabjgaaGreatDoorGa
namespace Go.Proofs.YtndkpdiacabjgaaGreatDoor
open Go.RowKit

theorem seq_shape {w : World} {S n : Nat} {v : Value} {cs : Nat → Option Value} (h : SeqAt w S v n cs) : ∃ a cap, v = .slice a n cap := by
  rcases h with ⟨rfl, a, cap, rfl⟩ | ⟨_, _, b, off, cap, rfl, _⟩
  · exact ⟨_, _, rfl⟩
  · exact ⟨_, _, rfl⟩

/-- The cells of a range. -/
def rngA (r : Int × Int) : Array Value := #[.int .i64 r.1, .int .i64 r.2]
def rngsC (l : List (Int × Int)) (j : Nat) : Option Value := (l[j / 2]?).bind fun r => (rngA r)[j % 2]?
/-- A slice value holds a list of ranges. -/
def RngsAt (w : World) (v : Value) (l : List (Int × Int)) : Prop := SeqAt w 2 v l.length (rngsC l)

theorem rngsC_at (l : List (Int × Int)) (k : Nat) (hk : k < l.length) (i : Nat) (hi : i < 2) : rngsC l (k * 2 + i) = (rngA l[k])[i]? := by
  unfold rngsC
  rw [show (k * 2 + i) / 2 = k from by omega, show (k * 2 + i) % 2 = i from by omega, List.getElem?_eq_getElem hk]
  rfl
theorem rng_cells {w : World} {b off : Nat} {l : List (Int × Int)} (hc : ∀ j, j < l.length * 2 → w.cell? ⟨b, off + j, none⟩ = rngsC l j) (k : Nat) (hk : k < l.length) :
    w.cell? ⟨b, off + k * 2, none⟩ = some (.int .i64 l[k].1) ∧ w.cell? ⟨b, off + k * 2 + 1, none⟩ = some (.int .i64 l[k].2) := by
  refine ⟨?_, ?_⟩
  · rw [show off + k * 2 = off + (k * 2 + 0) from rfl, hc _ (by omega), rngsC_at l k hk 0 (by decide)]; rfl
  · rw [show off + k * 2 + 1 = off + (k * 2 + 1) from rfl, hc _ (by omega), rngsC_at l k hk 1 (by decide)]; rfl

/-- The cells of a list of ranges, in a row. -/
def rngsL : List (Int × Int) → List Value
  | [] => []
  | d :: l => (rngA d).toList ++ rngsL l
theorem rngsL_length (l : List (Int × Int)) : (rngsL l).length = l.length * 2 := by
  induction l with
  | nil => rfl
  | cons d l ih => rw [rngsL, List.length_append, ih]; simp [rngA]; omega
theorem rngsL_append (l m : List (Int × Int)) : rngsL (l ++ m) = rngsL l ++ rngsL m := by
  induction l with
  | nil => rfl
  | cons d l ih => rw [List.cons_append, rngsL, rngsL, ih, List.append_assoc]
theorem rngsL_get (l : List (Int × Int)) (j : Nat) : (rngsL l)[j]? = rngsC l j := by
  induction l generalizing j with
  | nil => rfl
  | cons d l ih =>
    have h7 : (rngA d).toList.length = 2 := rfl
    rw [rngsL]
    by_cases hj : j < 2
    · rw [List.getElem?_append_left (by omega), rngsC, show j / 2 = 0 from by omega, show j % 2 = j from by omega]
      simp
    · rw [List.getElem?_append_right (by omega), h7, ih, rngsC, rngsC, show j / 2 = (j - 2) / 2 + 1 from by omega, show j % 2 = (j - 2) % 2 from by omega]
      simp
theorem own_rngs {w : World} {base T : Nat} {v : Value} {l : List (Int × Int)} (h : w.ownsRow base T 2 v l.length (rngsL l)) (hn : l.length ≤ 140737488351232) : RngsAt w v l := own_seq h hn (rngsL_get l)
theorem RngsAt.run {w w' : World} {v : Value} {l : List (Int × Int)} (h : RngsAt w v l) (hb : Below w.heap.size w w') : RngsAt w' v l := SeqAt.below h hb

theorem rng_news {w : World} {b : Nat} {T : Nat} {r : Int × Int} (h : RowAt w b T (rngA r)) : ∀ (j : Nat) u, (rngA r).toList[j]? = some u → w.cell? ((⟨b, 0, none⟩ : Addr).add j) = some u := by
  intro j u hj
  have hadd : (⟨b, 0, none⟩ : Addr).add j = ⟨b, j, none⟩ := by unfold Addr.add; split <;> simp_all
  rw [hadd, (row_facts h).1 j]
  simpa using hj
theorem rng_ones (r : Int × Int) : ∀ u ∈ (rngA r).toList, u.oneCell' = true := by
  intro u hu
  simp [rngA] at hu
  rcases hu with rfl | rfl <;> rfl
theorem Tryz.info_rng : (Tryz.prog.info? 42).map (fun i => (i.zero, i.size, i.bytes)) = some (some (.agg #[.int .i64 0, .int .i64 0]), 2, 16) := by kernel_rfl

/-- The end of the last range of a list that the call itself holds. -/
theorem rngs_last {w : World} {base T : Nat} {v : Value} {l0 : List (Int × Int)} {a x : Int} (h : w.ownsRow base T 2 v (l0.length + 1) (rngsL (l0 ++ [(a, x)]))) :
    ∃ g cap, v = .slice (some ⟨g, 0, none⟩) (l0.length + 1) cap ∧ base ≤ g ∧ g < w.heap.size ∧ (∃ u, w.cell? ⟨g, l0.length * 2 + 1, none⟩ = some u) ∧ (∀ i, w.frozen? ⟨g, i, none⟩ = false) ∧
      ∀ y, (w.setCell ⟨g, l0.length * 2 + 1, none⟩ (.int .i64 y)).ownsRow base T 2 v (l0.length + 1) (rngsL (l0 ++ [(a, y)])) := by
  have hL : ∀ z, rngsL (l0 ++ [(a, z)]) = rngsL l0 ++ [.int .i64 a, .int .i64 z] := fun z => by rw [rngsL_append]; rfl
  have hl0 := rngsL_length l0
  rcases h.2 with ⟨rfl, hn⟩ | ⟨g, cap, cur, rfl, hb, hg, hnc, hcm, hcs, htake⟩
  · omega
  · refine ⟨g, cap, rfl, hb, lt_of_block hg, ?_, fun i => frozen_of_row w g i _ _ hg, fun y => ?_⟩
    · rw [cell_of_row w g _ _ _ _ hg]
      have : l0.length * 2 + 1 < cur.size := by rw [hcs]; omega
      exact ⟨_, Array.getElem?_eq_getElem this⟩
    · refine ⟨by rw [hL]; simp [hl0]; omega, .inr ⟨g, cap, cur.setIfInBounds (l0.length * 2 + 1) (.int .i64 y), rfl, hb, heap_setCell_same w g _ _ _ _ hg, hnc, hcm, by simp [hcs], ?_⟩⟩
      rw [Array.toList_setIfInBounds, List.take_set, htake, hL, hL]
      rw [List.set_append_right _ _ (by omega)]
      rw [hl0, show l0.length * 2 + 1 - l0.length * 2 = 1 from by omega]
      rfl

/-- The row of a set: 1001 cells. -/
def cellsM (M : Nat → Bool) : Array Value := ((List.range 1001).map fun c => Value.bool (M c)).toArray
set_option maxRecDepth 100000 in
theorem cellsM_at (M : Nat → Bool) {c : Nat} (h : c < 1001) : (cellsM M)[c]? = some (.bool (M c)) := by
  rw [cellsM, List.getElem?_toArray, List.getElem?_map, List.getElem?_range h, Option.map_some]
set_option maxRecDepth 100000 in
theorem cellsM_size (M : Nat → Bool) : (cellsM M).size = 1001 := by rw [cellsM, List.size_toArray, List.length_map, List.length_range]
set_option maxRecDepth 100000 in
theorem cellsM_set (M M' : Nat → Bool) (b : Bool) {c : Nat} (h : c < 1001) (hc : M' c = b) (ho : ∀ i, i ≠ c → M' i = M i) : (cellsM M).setIfInBounds c (.bool b) = cellsM M' := by
  apply Array.ext_getElem?
  intro i
  rw [Array.getElem?_setIfInBounds]
  by_cases hi : c = i
  · subst hi
    rw [if_pos rfl, cellsM_size, if_pos h, cellsM_at M' h, hc]
  · rw [if_neg hi]
    by_cases h2 : i < 1001
    · rw [cellsM_at M h2, cellsM_at M' h2, ho i (fun e => hi e.symm)]
    · rw [Array.getElem?_eq_none (by rw [cellsM_size]; omega), Array.getElem?_eq_none (by rw [cellsM_size]; omega)]
set_option maxRecDepth 100000 in
theorem cellsM_congr {M M' : Nat → Bool} (h : ∀ c, c < 1001 → M c = M' c) : cellsM M = cellsM M' := by
  unfold cellsM
  congr 1
  refine List.map_congr_left fun c hc => ?_
  rw [h c (by simpa using hc)]
/-- A block is the row of a set. -/
def SetAt (w : World) (b : Nat) (M : Nat → Bool) : Prop := RowAt w b 71 (cellsM M)
theorem SetAt.facts {w : World} {b : Nat} {M : Nat → Bool} (h : SetAt w b M) : (∀ o, o < 1001 → w.cell? ⟨b, o, none⟩ = some (.bool (M o))) ∧ (∀ o, w.frozen? ⟨b, o, none⟩ = false) ∧ b < w.heap.size := by
  obtain ⟨h1, h2, h3, _⟩ := row_facts h
  exact ⟨fun o ho => by rw [h1, cellsM_at M ho], h2, h3⟩
theorem SetAt.set {w : World} {b c : Nat} {M M' : Nat → Bool} {v : Bool} (h : SetAt w b M) (hc : c < 1001) (hv : M' c = v) (ho : ∀ i, i ≠ c → M' i = M i) : SetAt (w.setCell ⟨b, c, none⟩ (.bool v)) b M' :=
  RowAt.set h (cellsM_set M M' v hc hv ho)
theorem SetAt.run {w w' : World} {b : Nat} {M : Nat → Bool} (h : SetAt w b M) (hb : Below w.heap.size w w') : SetAt w' b M := RowAt.run h hb
theorem SetAt.congr {w : World} {b : Nat} {M M' : Nat → Bool} (h : SetAt w b M) (hm : ∀ c, c < 1001 → M c = M' c) : SetAt w b M' := by
  unfold SetAt
  rw [← cellsM_congr hm]
  exact h
end Go.Proofs.YtndkpdiacabjgaaGreatDoor
