/-
  Blocks that are known whole: lemmas on any world.
-/
import Derived.Test.YtndkpdiacabjgaaGreatDoorUpd
namespace Go.Proofs.YtndkpdiacabjgaaGreatDoor
open Go.RowKit

/-- A block is a row of cells. -/
def RowAt (w : World) (b : Nat) (T : Nat) (cs : Array Value) : Prop := w.heap[b]? = some (.cells cs T (0, 0))

theorem RowAt.below {w w' : World} {b B T : Nat} {cs : Array Value} (h : RowAt w b T cs) (hb : Below B w w') (hB : b < B) : RowAt w' b T cs := (hb.block b hB).trans h
theorem RowAt.run {w w' : World} {b T : Nat} {cs : Array Value} (h : RowAt w b T cs) (hb : Below w.heap.size w w') : RowAt w' b T cs := (hb.block b (lt_of_block h)).trans h
theorem RowAt.far {w : World} {b T : Nat} {cs : Array Value} {p : Addr} {u : Value} (h : RowAt w b T cs) (hne : b ≠ p.block) : RowAt (w.setCell p u) b T cs := (heap_setCell_other w p b u hne).trans h
theorem RowAt.alloc {w : World} {b T : Nat} {cs : Array Value} (h : RowAt w b T cs) (o : Obj) : RowAt (w.alloc o) b T cs := (Below.heap_alloc w o b (lt_of_block h)).trans h
theorem RowAt.drewN {w : World} {b T : Nat} {cs : Array Value} (h : RowAt w b T cs) (n : Nat) : RowAt (w.drewN n) b T cs := h
theorem RowAt.drew {w : World} {b T : Nat} {cs : Array Value} (h : RowAt w b T cs) : RowAt w.drew b T cs := h
theorem RowAt.new (w : World) (T : Nat) (cs : Array Value) : RowAt (w.alloc (.cells cs T)) w.heap.size T cs := heap_alloc_new w _
theorem RowAt.mk {w : World} {b T : Nat} {cs cs' : Array Value} (hb : b = w.heap.size) (hc : cs' = cs) : RowAt (w.alloc (.cells cs' T)) b T cs := by
  subst hb hc
  exact heap_alloc_new w _
theorem RowAt.set {w : World} {b T : Nat} {cs cs' : Array Value} {i : Nat} {u : Value} (h : RowAt w b T cs) (he : cs.setIfInBounds i u = cs') : RowAt (w.setCell ⟨b, i, none⟩ u) b T cs' := by
  unfold RowAt at *
  rw [heap_setCell_same w b i _ _ u h, he]
theorem RowAt.upd {w w' : World} {b k T : Nat} {cs : Array Value} (h : RowAt w k T cs) (hu : Upd b w w') (hne : k ≠ b) : RowAt w' k T cs := (hu.block k (lt_of_block h) (by simp; omega)).trans h

theorem row_facts {w : World} {b T : Nat} {cs : Array Value} (h : RowAt w b T cs) :
    (∀ o, w.cell? ⟨b, o, none⟩ = cs[o]?) ∧ (∀ o, w.frozen? ⟨b, o, none⟩ = false) ∧ b < w.heap.size ∧ b ≤ w.heap.size ∧ ¬ b = w.heap.size ∧ ¬ w.heap.size = b := by
  have hlt := lt_of_block h
  exact ⟨fun o => cell_of_row w b o _ _ _ h, fun o => frozen_of_row w b o _ _ h, hlt, by omega, by omega, by omega⟩

/-- Six cells of a message, stored one by one. -/
theorem RowAt.six {w : World} {k T : Nat} {a b c d e f v0 v1 v2 v3 v4 v5 : Value} (h : RowAt w k T #[a, b, c, d, e, f]) :
    RowAt ((((((w.setCell ⟨k, 0, none⟩ v0).setCell ⟨k, 1, none⟩ v1).setCell ⟨k, 2, none⟩ v2).setCell ⟨k, 3, none⟩ v3).setCell ⟨k, 4, none⟩ v4).setCell ⟨k, 5, none⟩ v5) k T #[v0, v1, v2, v3, v4, v5] := by
  have h0 : RowAt _ k T #[v0, b, c, d, e, f] := RowAt.set (i := 0) (u := v0) h rfl
  have h1 : RowAt _ k T #[v0, v1, c, d, e, f] := RowAt.set (i := 1) (u := v1) h0 rfl
  have h2 : RowAt _ k T #[v0, v1, v2, d, e, f] := RowAt.set (i := 2) (u := v2) h1 rfl
  have h3 : RowAt _ k T #[v0, v1, v2, v3, e, f] := RowAt.set (i := 3) (u := v3) h2 rfl
  have h4 : RowAt _ k T #[v0, v1, v2, v3, v4, f] := RowAt.set (i := 4) (u := v4) h3 rfl
  exact RowAt.set h4 rfl

/-- Seven cells of a device, stored one by one. -/
theorem RowAt.seven {w : World} {k T : Nat} {a b c d e f g v0 v1 v2 v3 v4 v5 v6 : Value} (h : RowAt w k T #[a, b, c, d, e, f, g]) :
    RowAt (((((((w.setCell ⟨k, 0, none⟩ v0).setCell ⟨k, 1, none⟩ v1).setCell ⟨k, 2, none⟩ v2).setCell ⟨k, 3, none⟩ v3).setCell ⟨k, 4, none⟩ v4).setCell ⟨k, 5, none⟩ v5).setCell ⟨k, 6, none⟩ v6) k T #[v0, v1, v2, v3, v4, v5, v6] := by
  have h0 : RowAt _ k T #[v0, b, c, d, e, f, g] := RowAt.set (i := 0) (u := v0) h rfl
  have h1 : RowAt _ k T #[v0, v1, c, d, e, f, g] := RowAt.set (i := 1) (u := v1) h0 rfl
  have h2 : RowAt _ k T #[v0, v1, v2, d, e, f, g] := RowAt.set (i := 2) (u := v2) h1 rfl
  have h3 : RowAt _ k T #[v0, v1, v2, v3, e, f, g] := RowAt.set (i := 3) (u := v3) h2 rfl
  have h4 : RowAt _ k T #[v0, v1, v2, v3, v4, f, g] := RowAt.set (i := 4) (u := v4) h3 rfl
  have h5 : RowAt _ k T #[v0, v1, v2, v3, v4, v5, g] := RowAt.set (i := 5) (u := v5) h4 rfl
  exact RowAt.set h5 rfl

end Go.Proofs.YtndkpdiacabjgaaGreatDoor
