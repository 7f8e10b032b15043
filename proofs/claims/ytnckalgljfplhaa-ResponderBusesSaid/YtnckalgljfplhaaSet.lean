/-
  A map from identities to true: what it holds.
-/
import Derived.Test.YtnckalgljfplhaaSent
import Derived.Test.YtnckalgljfplhaaMap
namespace Go.Proofs.Ytnckalgljfplhaa
open Go.RowKit

/-- The entries of a set of identities, in the order in which they came. -/
def entL : List Int → Nat → List MapEntry
  | [], _ => []
  | a :: l, n => { key := .int .u64 a, val := .bool true, born := n } :: entL l (n + 1)

theorem entL_snoc (l : List Int) (a : Int) (n : Nat) : entL (l ++ [a]) n = entL l n ++ [{ key := .int .u64 a, val := .bool true, born := n + l.length }] := by
  induction l generalizing n with
  | nil => rfl
  | cons b l ih =>
    rw [List.cons_append, entL, entL, ih, List.cons_append, List.length_cons]
    congr 4
    omega

theorem entL_find (l : List Int) (x : Int) (n i : Nat) : ∃ r, Instr.findNow (.int .u64) (.int .u64 x) (entL l n) i = some r ∧ r.map (·.2) = if x ∈ l then some (.bool true) else none := by
  induction l generalizing n i with
  | nil => exact ⟨none, rfl, rfl⟩
  | cons b l ih =>
    by_cases h : x = b
    · subst h
      refine ⟨some (i, .bool true), ?_, by simp⟩
      simp [entL, Instr.findNow, Instr.sameNow]
    · obtain ⟨r, h1, h2⟩ := ih (n + 1) (i + 1)
      refine ⟨r, ?_, by rw [h2]; simp [h]⟩
      have hb : (x == b) = false := by simpa using h
      simp [entL, Instr.findNow, Instr.sameNow, hb, h1]

theorem entL_none (l : List Int) (x : Int) (h : x ∉ l) : Instr.findNow (.int .u64) (.int .u64 x) (entL l 0).toArray.toList 0 = some none := by
  obtain ⟨r, h1, h2⟩ := entL_find l x 0 0
  rw [if_neg h] at h2
  cases r with
  | none => exact h1
  | some p => cases h2

/-- A block is a set of identities. -/
def SeenAt (w : World) (b : Nat) (l : List Int) : Prop := w.heap[b]? = some (.map (entL l 0).toArray l.length)

theorem Try.zero_bool (w : World) : (zeroValue 4).run Try.prog w = .ok (.bool false) w := by kernel_rfl

theorem seen_look {w : World} {b : Nat} {l : List Int} (h : SeenAt w b l) (x : Int) : (Instr.lookup 102 (.map (some b)) (.int .u64 x) false).run Try.prog w = .ok (.bool (decide (x ∈ l))) w := by
  obtain ⟨r, h1, h2⟩ := entL_find l x 0 0
  have h1' : Instr.findNow (.int .u64) (.int .u64 x) (entL l 0).toArray.toList 0 = some r := h1
  have := run_lookup_ok (P := Try.prog) x b r (.bool false) (Try.zero_bool w) Try.underlying102 Try.underlying22 h h1' false
  rw [this, h2]
  by_cases hx : x ∈ l <;> simp [hx]

theorem seen_put {w : World} {b : Nat} {l : List Int} (h : SeenAt w b l) (x : Int) (hx : x ∉ l) :
    ∃ w2, (Instr.mapUpdate 102 (.map (some b)) (.int .u64 x) (.bool true)).run Try.prog w = .ok () w2 ∧ SeenAt w2 b (l ++ [x]) ∧ Upd b w w2 := by
  have hlt : b < w.heap.size := lt_of_block h
  refine ⟨{ w with heap := w.heap.setIfInBounds b (.map (entL (l ++ [x]) 0).toArray (l ++ [x]).length) }, ?_, ?_, ?_⟩
  · have hg : (getObj b).run Try.prog w = .ok (.map (entL l 0).toArray l.length) w := by
      unfold SeenAt at h
      simp only [getObj, Sem.run, h]
    have hs : ∀ o, (setObj b o).run Try.prog w = .ok () { w with heap := w.heap.setIfInBounds b o } := by
      intro o
      unfold SeenAt at h
      simp only [setObj, Sem.run, h]
    unfold Instr.mapUpdate
    simp [run_underlying Try.underlying102, hg, run_checkKey_int (P := Try.prog) (w := w) false 9999 x Try.underlying22, run_findKey_int (P := Try.prog) (w := w) x (entL l 0).toArray.toList none Try.underlying22 (entL_none l x hx), hs, entL_snoc]
  · show (w.heap.setIfInBounds b _)[b]? = _
    rw [Array.getElem?_setIfInBounds]
    simp [hlt]
  · refine ⟨rfl, rfl, rfl, by simp, fun k _ hne => ?_⟩
    show (w.heap.setIfInBounds b _)[k]? = _
    rw [Array.getElem?_setIfInBounds, if_neg (by intro e; exact hne (by rw [e]))]

end Go.Proofs.Ytnckalgljfplhaa
