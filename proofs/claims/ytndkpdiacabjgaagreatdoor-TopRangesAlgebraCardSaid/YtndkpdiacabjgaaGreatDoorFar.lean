/-
  Stores of whole messages and devices into one block: what they leave alone.
-/
import Derived.Test.YtndkpdiacabjgaaGreatDoorRow
namespace Go.Proofs.YtndkpdiacabjgaaGreatDoor
open Go.RowKit

theorem RowAt.far1 {w : World} {b g i T : Nat} {cs : Array Value} {u : Value} (h : RowAt w b T cs) (hne : ¬ b = g) : RowAt (w.setCell ⟨g, i, none⟩ u) b T cs := h.far hne
theorem RowAt.far6 {w : World} {b g T : Nat} {cs : Array Value} {v0 v1 v2 v3 v4 v5 : Value} (h : RowAt w b T cs) (hne : ¬ b = g) : RowAt ((((((w.setCell ⟨g, 0, none⟩ v0).setCell ⟨g, 1, none⟩ v1).setCell ⟨g, 2, none⟩ v2).setCell ⟨g, 3, none⟩ v3).setCell ⟨g, 4, none⟩ v4).setCell ⟨g, 5, none⟩ v5) b T cs := (((((h.far1 hne).far1 hne).far1 hne).far1 hne).far1 hne).far1 hne
theorem RowAt.far7 {w : World} {b g T : Nat} {cs : Array Value} {v0 v1 v2 v3 v4 v5 v6 : Value} (h : RowAt w b T cs) (hne : ¬ b = g) : RowAt (((((((w.setCell ⟨g, 0, none⟩ v0).setCell ⟨g, 1, none⟩ v1).setCell ⟨g, 2, none⟩ v2).setCell ⟨g, 3, none⟩ v3).setCell ⟨g, 4, none⟩ v4).setCell ⟨g, 5, none⟩ v5).setCell ⟨g, 6, none⟩ v6) b T cs := ((((((h.far1 hne).far1 hne).far1 hne).far1 hne).far1 hne).far1 hne).far1 hne
theorem below_one {B : Nat} {a w : World} {g i : Nat} {u : Value} (h : Below B a w) (hg : B ≤ g) : Below B a (w.setCell ⟨g, i, none⟩ u) := h.setCell hg _
theorem below_six {B : Nat} {a w : World} {g : Nat} {v0 v1 v2 v3 v4 v5 : Value} (h : Below B a w) (hg : B ≤ g) : Below B a ((((((w.setCell ⟨g, 0, none⟩ v0).setCell ⟨g, 1, none⟩ v1).setCell ⟨g, 2, none⟩ v2).setCell ⟨g, 3, none⟩ v3).setCell ⟨g, 4, none⟩ v4).setCell ⟨g, 5, none⟩ v5) := below_one (below_one (below_one (below_one (below_one (below_one h hg) hg) hg) hg) hg) hg
theorem below_seven {B : Nat} {a w : World} {g : Nat} {v0 v1 v2 v3 v4 v5 v6 : Value} (h : Below B a w) (hg : B ≤ g) : Below B a (((((((w.setCell ⟨g, 0, none⟩ v0).setCell ⟨g, 1, none⟩ v1).setCell ⟨g, 2, none⟩ v2).setCell ⟨g, 3, none⟩ v3).setCell ⟨g, 4, none⟩ v4).setCell ⟨g, 5, none⟩ v5).setCell ⟨g, 6, none⟩ v6) := below_one (below_one (below_one (below_one (below_one (below_one (below_one h hg) hg) hg) hg) hg) hg) hg

end Go.Proofs.YtndkpdiacabjgaaGreatDoor
