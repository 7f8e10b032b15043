/-
  Maps with integer keys that the call itself makes: what a store and a lookup do, said of the entries.
-/
import Derived.Test.YtdklpmaeajpacaaDoorByt
namespace Go.Proofs.YtdklpmaeajpacaaDoor
open Go.RowKit

section
variable {P : Program} {w : World} {t kt et : TypeId} {q : IntKind} {es : Array MapEntry} {c : Nat}

theorem run_checkKey_int (b : Bool) (n : Nat) (a : Int) (hk : P.underlying kt = some (.int q)) : (Instr.checkKey b (n + 1) kt (.int q a)).run P w = .ok () w := by
  unfold Instr.checkKey
  simp [run_underlying hk]

theorem run_findKey_int (a : Int) (l : List MapEntry) (r : Option (Nat × Value)) (hk : P.underlying kt = some (.int q)) (hf : Instr.findNow (.int q) (.int q a) l 0 = some r) :
    (Instr.findKey kt (.int q a) l).run P w = .ok r w := by
  simp [Instr.findKey, run_underlying hk, hf]

theorem setIfInBounds_push_last {α : Type} (a : Array α) (x y : α) : (a.push x).setIfInBounds a.size y = a.push y := by
  apply Array.ext_getElem?
  intro i
  rw [Array.getElem?_setIfInBounds, Array.getElem?_push, Array.getElem?_push]
  by_cases h : a.size = i
  · subst h; simp
  · rw [if_neg h]
    have h' : i ≠ a.size := fun e => h e.symm
    simp [h']

theorem run_update_new (a : Int) (v : Value) (ht : P.underlying t = some (.map kt et)) (hk : P.underlying kt = some (.int q)) (hf : Instr.findNow (.int q) (.int q a) es.toList 0 = some none) :
    (Instr.mapUpdate t (.map (some w.heap.size)) (.int q a) v).run P (w.alloc (.map es c)) = .ok () (w.alloc (.map (es.push { key := .int q a, val := v, born := c }) (c + 1))) := by
  have hg : (getObj w.heap.size).run P (w.alloc (.map es c)) = .ok (.map es c) (w.alloc (.map es c)) := by
    simp only [getObj, Sem.run, heap_alloc_new]
  have hs : ∀ o, (setObj w.heap.size o).run P (w.alloc (.map es c)) = .ok () (w.alloc o) := by
    intro o
    simp only [setObj, Sem.run, heap_alloc_new]
    congr 1
    show { w.alloc (.map es c) with heap := (w.heap.push (.map es c)).setIfInBounds w.heap.size o } = _
    rw [setIfInBounds_push_last]
    rfl
  unfold Instr.mapUpdate
  simp [run_underlying ht, hg, run_checkKey_int false 9999 a hk, run_findKey_int a es.toList none hk hf, hs]

theorem run_lookup_ok (a : Int) (b : Nat) (r : Option (Nat × Value)) (z : Value) (hz : (zeroValue et).run P w = .ok z w) (ht : P.underlying t = some (.map kt et)) (hk : P.underlying kt = some (.int q))
    (hb : w.heap[b]? = some (.map es c)) (hf : Instr.findNow (.int q) (.int q a) es.toList 0 = some r) (ok : Bool) :
    (Instr.lookup t (.map (some b)) (.int q a) ok).run P w = .ok (if ok then .tuple #[(r.map (·.2)).getD z, .bool r.isSome] else (r.map (·.2)).getD z) w := by
  have hg : (getObj b).run P w = .ok (.map es c) w := by simp only [getObj, Sem.run, hb]
  unfold Instr.lookup
  cases r with
  | none => cases ok <;> simp [run_underlying ht, hg, run_checkKey_int _ 9999 a hk, run_findKey_int a es.toList _ hk hf, hz]
  | some x => cases ok <;> simp [run_underlying ht, hg, run_checkKey_int _ 9999 a hk, run_findKey_int a es.toList _ hk hf]
end

/-- The map of the lengths. -/
def lenMap : Array MapEntry := #[{ key := .int .i64 1, val := .int .i64 12, born := 0 }, { key := .int .i64 2, val := .int .i64 0, born := 1 },
  { key := .int .i64 3, val := .int .i64 0, born := 2 }, { key := .int .i64 7, val := .int .i64 1, born := 3 }]

def lenFind (k : Int) : Option (Nat × Value) :=
  if k = 1 then some (0, .int .i64 12) else if k = 2 then some (1, .int .i64 0) else if k = 3 then some (2, .int .i64 0) else if k = 7 then some (3, .int .i64 1) else none

theorem lenMap_find (k : Int) : Instr.findNow (.int .i64) (.int .i64 k) lenMap.toList 0 = some (lenFind k) := by
  unfold lenFind
  by_cases h1 : k = 1
  · subst h1; rfl
  by_cases h2 : k = 2
  · subst h2; rfl
  by_cases h3 : k = 3
  · subst h3; rfl
  by_cases h7 : k = 7
  · subst h7; rfl
  have b1 : (k == 1) = false := beq_eq_false_iff_ne.2 h1
  have b2 : (k == 2) = false := beq_eq_false_iff_ne.2 h2
  have b3 : (k == 3) = false := beq_eq_false_iff_ne.2 h3
  have b7 : (k == 7) = false := beq_eq_false_iff_ne.2 h7
  simp only [lenMap, Instr.findNow, Instr.sameNow, if_true, b1, b2, b3, b7, h1, h2, h3, h7, if_false]

theorem Tryd.zero_int (w : World) : (zeroValue 3).run Tryd.prog w = .ok (.int .i64 0) w := by kernel_rfl

/-- The length of a kind's data, and whether it has one. -/
def lenVal (k : Int) : Int := if lenOf k = -1 then 0 else lenOf k
def lenHas (k : Int) : Bool := decide (lenOf k ≠ -1)

set_option maxHeartbeats 400000 in
set_option maxRecDepth 100000 in
theorem lengths_any (k : Int) (w : World) :
    Calls Tryd.prog 56 #[.int .i64 k] w fun e w' => e = .returned (.tuple #[.int .i64 (lenVal k), .bool (lenHas k)]) ∧ Below w.heap.size w w' := by
  have hmm := @run_makeMap Tryd.prog
  have h1 : (Instr.mapUpdate 107 (.map (some w.heap.size)) (.int .i64 1) (.int .i64 12)).run Tryd.prog (w.alloc (.map #[] 0)) = .ok () (w.alloc (.map #[{ key := .int .i64 1, val := .int .i64 12, born := 0 }] 1)) :=
    run_update_new 1 (.int .i64 12) Tryd.underlying107 Tryd.underlying3 rfl
  have h2 : (Instr.mapUpdate 107 (.map (some w.heap.size)) (.int .i64 2) (.int .i64 0)).run Tryd.prog (w.alloc (.map #[{ key := .int .i64 1, val := .int .i64 12, born := 0 }] 1)) = .ok () (w.alloc (.map #[{ key := .int .i64 1, val := .int .i64 12, born := 0 }, { key := .int .i64 2, val := .int .i64 0, born := 1 }] 2)) :=
    run_update_new 2 (.int .i64 0) Tryd.underlying107 Tryd.underlying3 rfl
  have h3 : (Instr.mapUpdate 107 (.map (some w.heap.size)) (.int .i64 3) (.int .i64 0)).run Tryd.prog (w.alloc (.map #[{ key := .int .i64 1, val := .int .i64 12, born := 0 }, { key := .int .i64 2, val := .int .i64 0, born := 1 }] 2)) = .ok () (w.alloc (.map #[{ key := .int .i64 1, val := .int .i64 12, born := 0 }, { key := .int .i64 2, val := .int .i64 0, born := 1 }, { key := .int .i64 3, val := .int .i64 0, born := 2 }] 3)) :=
    run_update_new 3 (.int .i64 0) Tryd.underlying107 Tryd.underlying3 rfl
  have h4 : (Instr.mapUpdate 107 (.map (some w.heap.size)) (.int .i64 7) (.int .i64 1)).run Tryd.prog (w.alloc (.map #[{ key := .int .i64 1, val := .int .i64 12, born := 0 }, { key := .int .i64 2, val := .int .i64 0, born := 1 }, { key := .int .i64 3, val := .int .i64 0, born := 2 }] 3)) = .ok () (w.alloc (.map #[{ key := .int .i64 1, val := .int .i64 12, born := 0 }, { key := .int .i64 2, val := .int .i64 0, born := 1 }, { key := .int .i64 3, val := .int .i64 0, born := 2 }, { key := .int .i64 7, val := .int .i64 1, born := 3 }] 4)) :=
    run_update_new 7 (.int .i64 1) Tryd.underlying107 Tryd.underlying3 rfl
  have h5 := run_lookup_ok (P := Tryd.prog) (w := w.alloc (.map lenMap 4)) (es := lenMap) (c := 4) k w.heap.size (lenFind k) (.int .i64 0) (Tryd.zero_int _) Tryd.underlying107 Tryd.underlying3 (heap_alloc_new w _) (lenMap_find k) true
  have e5 : (if true then Value.tuple #[((lenFind k).map (·.2)).getD (.int .i64 0), .bool (lenFind k).isSome] else ((lenFind k).map (·.2)).getD (.int .i64 0)) = .tuple #[.int .i64 (lenVal k), .bool (lenHas k)] := by
    unfold lenFind lenVal lenHas lenOf
    by_cases k1 : k = 1
    · subst k1; rfl
    by_cases k2 : k = 2
    · subst k2; rfl
    by_cases k3 : k = 3
    · subst k3; rfl
    by_cases k7 : k = 7
    · subst k7; rfl
    simp [k1, k2, k3, k7]
  rw [e5] at h5
  clear e5
  simp only [lenMap] at h5
  go_enter Tryd.func56, Tryd.ntmps56
  go_wp2
  go_ret2
  exact ⟨rfl, (Below.refl _ _).alloc (Nat.le_refl _) _⟩
end Go.Proofs.YtdklpmaeajpacaaDoor
