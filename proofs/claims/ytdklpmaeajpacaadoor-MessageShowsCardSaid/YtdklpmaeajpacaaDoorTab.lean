/-
  The table that the names of identities are written by: it stays as it is.
-/
import Derived.Test.YtdklpmaeajpacaaDoorFar
namespace Go.Proofs.YtdklpmaeajpacaaDoor
open Go.RowKit

/-- The one cell of the library's table that is read. -/
def Tab (w : World) : Prop := w.cell? ⟨6, 15, none⟩ = some (.int .u8 4)

theorem Tab.lt {w : World} (h : Tab w) : 6 < w.heap.size := by
  rcases Nat.lt_or_ge 6 w.heap.size with h' | h'
  · exact h'
  · unfold Tab at h
    simp [World.cell?, Array.getElem?_eq_none h'] at h
theorem Tab.run {w w' : World} (h : Tab w) (hb : Below w.heap.size w w') : Tab w' := (hb.cell (p := ⟨6, 15, none⟩) h.lt).trans h
theorem Tab.below {B : Nat} {w w' : World} (h : Tab w) (hB : w.heap.size ≤ B) (hb : Below B w w') : Tab w' := (hb.cell (p := ⟨6, 15, none⟩) (Nat.lt_of_lt_of_le h.lt hB)).trans h
theorem Tab.alloc {w : World} (h : Tab w) (o : Obj) : Tab (w.alloc o) := h.run (Below.alloc (Below.refl _ _) (Nat.le_refl _) o)
theorem Tab.drew {w : World} (h : Tab w) : Tab w.drew := h
theorem Tab.drewN {w : World} (h : Tab w) (n : Nat) : Tab (w.drewN n) := h
theorem Tab.far {w : World} {p : Addr} (h : Tab w) (hne : p.block ≠ 6) (u : Value) : Tab (w.setCell p u) := by
  unfold Tab at *
  rw [World.cell?, heap_setCell_other w p _ u (fun e => hne e.symm)]
  exact h

end Go.Proofs.YtdklpmaeajpacaaDoor
