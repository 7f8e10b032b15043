/-
  What changes one block alone: plain lemmas on worlds.
-/
import Derived.Test.YtndkpdiacabjgaaGreatDoorBas
namespace Go.Proofs.YtndkpdiacabjgaaGreatDoor
open Go.RowKit

/-- Of old memory at most the block `b` has changed. -/
def Upd (b : Nat) (w w' : World) : Prop := w.grownBy w' (some b)

theorem upd_refl (b : Nat) (w : World) : Upd b w w := ⟨rfl, rfl, rfl, Nat.le_refl _, fun _ _ _ => rfl⟩
theorem upd_drewN {b : Nat} {a w : World} (h : Upd b a w) (n : Nat) : Upd b a (w.drewN n) := ⟨h.os, h.tape, h.output, h.size, h.block⟩
theorem upd_drew {b : Nat} {a w : World} (h : Upd b a w) : Upd b a w.drew := ⟨h.os, h.tape, h.output, h.size, h.block⟩
theorem upd_set {b : Nat} {a w : World} (h : Upd b a w) (o : Nat) (u : Value) : Upd b a (w.setCell ⟨b, o, none⟩ u) :=
  ⟨h.os, h.tape, h.output, by simpa using h.size, fun k hk hne => (heap_setCell_other w ⟨b, o, none⟩ k u (fun e => hne (by simp [e]))).trans (h.block k hk hne)⟩
theorem upd_far {b : Nat} {a w : World} (h : Upd b a w) {p : Addr} (hp : a.heap.size ≤ p.block) (u : Value) : Upd b a (w.setCell p u) :=
  ⟨h.os, h.tape, h.output, by simpa using h.size, fun k hk hne => (heap_setCell_other w p k u (by omega)).trans (h.block k hk hne)⟩
theorem upd_alloc {b : Nat} {a w : World} (h : Upd b a w) (o : Obj) : Upd b a (w.alloc o) :=
  ⟨h.os, h.tape, h.output, by have := h.size; simp; omega, fun k hk hne => (Below.heap_alloc w o k (by have := h.size; omega)).trans (h.block k hk hne)⟩
theorem upd_below {b : Nat} {a w w' : World} (h : Upd b a w) (hb : Below w.heap.size w w') : Upd b a w' :=
  ⟨hb.os.trans h.os, hb.tape.trans h.tape, hb.output.trans h.output, Nat.le_trans h.size hb.size, fun k hk hne => (hb.block k (by have := h.size; omega)).trans (h.block k hk hne)⟩
theorem upd_upd {b : Nat} {a w w' : World} (h : Upd b a w) (hb : Upd b w w') : Upd b a w' :=
  ⟨hb.os.trans h.os, hb.tape.trans h.tape, hb.output.trans h.output, Nat.le_trans h.size hb.size, fun k hk hne => (hb.block k (by have := h.size; omega) hne).trans (h.block k hk hne)⟩
/-- A new block may have changed: old memory is as it was. -/
theorem below_of_upd {a w w' : World} {b : Nat} (h : Below a.heap.size a w) (hu : Upd b w w') (hb : a.heap.size ≤ b) : Below a.heap.size a w' :=
  ⟨hu.os.trans h.os, hu.tape.trans h.tape, hu.output.trans h.output, Nat.le_trans h.size hu.size, fun k hk => (hu.block k (by have := h.size; omega) (by simp; omega)).trans (h.block k hk)⟩

theorem have_of {p q : Prop} (h : p) (k : p → q) : q := k h

theorem below_run {a w w' : World} (h : Below a.heap.size a w) (hb : Below w.heap.size w w') : Below a.heap.size a w' := below_after h h.size hb

end Go.Proofs.YtndkpdiacabjgaaGreatDoor
