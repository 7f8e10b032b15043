/-
  What all chapters' walks use: facts on memory that calls leave alone, and on parts of texts.
  What changes one block alone: plain lemmas on worlds.
  Blocks that are known whole: lemmas on any world.
  Stores of whole messages and devices into one block: what they leave alone.
-/
import Derived.WalkKit
import Derived.WalkSpells
import Derived.WalkLawsBesides
import Derived.Lib.Hide
import Derived.Deep.QuietTactic
import Derived.BigQuiet
import Derived.Deep.DeepCutAuto
namespace Go.Proofs.YtjeigphhepngmaaGreatDoor
open Go.RowKit

/-- A text of some bytes. -/
def str (l : List UInt8) : ByteArray := ⟨l.toArray⟩

theorem ret_bool {a b : Bool} (h : a = b) : Ending.returned (.bool a) = .returned (.bool b) := by rw [h]
theorem ret_int {k : IntKind} {a b : Int} (h : a = b) : Ending.returned (.int k a) = .returned (.int k b) := by rw [h]
theorem ret_str {a b : ByteArray} (h : a = b) : Ending.returned (.string a) = .returned (.string b) := by rw [h]

theorem take_snoc (s : ByteArray) (k : Nat) (h : k < s.size) : s.data.toList.take (k + 1) = s.data.toList.take k ++ [s[k]] := by
  rw [List.take_succ_eq_append_getElem (by simpa using h)]; rfl

theorem bcell {W w1 : World} (hb : Below W.heap.size W w1) : (∀ b o, b < W.heap.size → w1.cell? ⟨b, o, none⟩ = W.cell? ⟨b, o, none⟩) ∧ (∀ b o, b < W.heap.size → w1.frozen? ⟨b, o, none⟩ = W.frozen? ⟨b, o, none⟩) :=
  ⟨fun b o h => hb.cell (p := ⟨b, o, none⟩) h, fun b o h => hb.frozen (p := ⟨b, o, none⟩) h⟩

/-- What a call that leaves old memory alone says of the cells, the marks and the numbers of blocks. -/
theorem bfacts {W w1 : World} {n : Nat} (hb : Below W.heap.size W w1) (hn : n ≤ W.heap.size) :
    (∀ b o, b < n → w1.cell? ⟨b, o, none⟩ = W.cell? ⟨b, o, none⟩) ∧ (∀ b o, b < n → w1.frozen? ⟨b, o, none⟩ = W.frozen? ⟨b, o, none⟩) ∧
    (∀ g, g < n → g < w1.heap.size) ∧ (∀ g, g < n → g ≤ w1.heap.size) ∧ (∀ g, g < n → ¬ g = w1.heap.size) ∧ (∀ g, g < n → ¬ w1.heap.size = g) ∧ n ≤ w1.heap.size := by
  have := hb.size
  obtain ⟨h1, h2⟩ := bcell hb
  refine ⟨fun b o h => h1 b o (by omega), fun b o h => h2 b o (by omega), fun g h => ?_, fun g h => ?_, fun g h => ?_, fun g h => ?_, ?_⟩ <;> omega

theorem bfactsB {W w1 : World} {n B : Nat} (hb : Below B W w1) (hB : n ≤ B) (hn : n ≤ W.heap.size) :
    (∀ b o, b < n → w1.cell? ⟨b, o, none⟩ = W.cell? ⟨b, o, none⟩) ∧ (∀ b o, b < n → w1.frozen? ⟨b, o, none⟩ = W.frozen? ⟨b, o, none⟩) ∧
    (∀ g, g < n → g < w1.heap.size) ∧ (∀ g, g < n → g ≤ w1.heap.size) ∧ (∀ g, g < n → ¬ g = w1.heap.size) ∧ (∀ g, g < n → ¬ w1.heap.size = g) ∧ n ≤ w1.heap.size := by
  have := hb.size
  refine ⟨fun b o h => hb.cell (p := ⟨b, o, none⟩) (Nat.lt_of_lt_of_le h hB), fun b o h => hb.frozen (p := ⟨b, o, none⟩) (Nat.lt_of_lt_of_le h hB), fun g h => ?_, fun g h => ?_, fun g h => ?_, fun g h => ?_, ?_⟩ <;> omega

theorem quiet_left {P : Program} {f : FuncId} {args : Array Value} {w : World} {n : Nat} {v : Value}
    (h : Calls P f args (w.drewN n) fun e w' => e = .returned v ∧ w.drewN n = w') : Calls P f args (w.drewN n) fun e w'' => e = .returned v ∧ ∃ m, w'' = w.drewN m :=
  h.mono fun _ _ ⟨he, hw⟩ => ⟨he, n, hw.symm⟩

theorem below_after {B B' : Nat} {a w w' : World} (h : Below B a w) (hB : B ≤ B') (hb : Below B' w w') : Below B a w' := h.trans (hb.mono hB)

theorem below_drewN {B : Nat} {a w : World} (h : Below B a w) (n : Nat) : Below B a (w.drewN n) := ⟨h.os, h.tape, h.output, h.size, h.block⟩

theorem below_after1 {w w' : World} {o : Obj} (hb : Below (w.alloc o).heap.size (w.alloc o) w') : Below w.heap.size w w' :=
  below_after ((Below.refl _ _).alloc (Nat.le_refl _) _) (by simp) hb

theorem take_extract (s : ByteArray) (n : Nat) : (s.extract 0 n).data.toList = s.data.toList.take n := by
  have h := ByteArray.extract_mk s.data.toList 0 n
  simp at h
  rw [h]
theorem drop_extract (s : ByteArray) (n : Nat) : (s.extract n s.size).data.toList = s.data.toList.drop n := by
  have h := ByteArray.extract_mk s.data.toList n s.size
  simp at h
  rw [h]
  exact List.take_of_length_le (by simp)

end Go.Proofs.YtjeigphhepngmaaGreatDoor

namespace Go.Proofs.YtjeigphhepngmaaGreatDoor
open Go.RowKit

/-- Of old memory at most the block `b` has changed. -/
def Upd (b : Nat) (w w' : World) : Prop := w.grownBy w' (some b)

theorem upd_refl (b : Nat) (w : World) : Upd b w w := ⟨rfl, rfl, rfl, Nat.le_refl _, fun _ _ _ => rfl⟩
theorem upd_drewN {b : Nat} {a w : World} (h : Upd b a w) (n : Nat) : Upd b a (w.drewN n) := ⟨h.os, h.tape, h.output, h.size, h.block⟩
theorem upd_drew {b : Nat} {a w : World} (h : Upd b a w) : Upd b a w.drew := ⟨h.os, h.tape, h.output, h.size, h.block⟩
theorem upd_set {b : Nat} {a w : World} (h : Upd b a w) (o : Nat) (u : Value) : Upd b a (w.setCell ⟨b, o, none⟩ u) :=
  ⟨h.os, h.tape, h.output, by simpa using h.size, fun k hk hne => (heap_setCell_other w ⟨b, o, none⟩ k u (fun e => hne (by simp [e]))).trans (h.block k hk hne)⟩
theorem upd_far {b : Nat} {a w : World} (h : Upd b a w) {p : Addr} (hp : a.heap.size ≤ p.block) (u : Value) : Upd b a (w.setCell p u) :=
  ⟨h.os, h.tape, h.output, by simpa using h.size, fun k hk hne => (heap_setCell_other w p k u (by omega)).trans (h.block k hk hne)⟩
theorem upd_alloc {b : Nat} {a w : World} (h : Upd b a w) (o : Obj) : Upd b a (w.alloc o) :=
  ⟨h.os, h.tape, h.output, by have := h.size; simp; omega, fun k hk hne => (Below.heap_alloc w o k (by have := h.size; omega)).trans (h.block k hk hne)⟩
theorem upd_below {b : Nat} {a w w' : World} (h : Upd b a w) (hb : Below w.heap.size w w') : Upd b a w' :=
  ⟨hb.os.trans h.os, hb.tape.trans h.tape, hb.output.trans h.output, Nat.le_trans h.size hb.size, fun k hk hne => (hb.block k (by have := h.size; omega)).trans (h.block k hk hne)⟩
theorem upd_upd {b : Nat} {a w w' : World} (h : Upd b a w) (hb : Upd b w w') : Upd b a w' :=
  ⟨hb.os.trans h.os, hb.tape.trans h.tape, hb.output.trans h.output, Nat.le_trans h.size hb.size, fun k hk hne => (hb.block k (by have := h.size; omega) hne).trans (h.block k hk hne)⟩
/-- A new block may have changed: old memory is as it was. -/
theorem below_of_upd {a w w' : World} {b : Nat} (h : Below a.heap.size a w) (hu : Upd b w w') (hb : a.heap.size ≤ b) : Below a.heap.size a w' :=
  ⟨hu.os.trans h.os, hu.tape.trans h.tape, hu.output.trans h.output, Nat.le_trans h.size hu.size, fun k hk => (hu.block k (by have := h.size; omega) (by simp; omega)).trans (h.block k hk)⟩

theorem have_of {p q : Prop} (h : p) (k : p → q) : q := k h

theorem below_run {a w w' : World} (h : Below a.heap.size a w) (hb : Below w.heap.size w w') : Below a.heap.size a w' := below_after h h.size hb

end Go.Proofs.YtjeigphhepngmaaGreatDoor

namespace Go.Proofs.YtjeigphhepngmaaGreatDoor
open Go.RowKit

/-- A block is a row of cells. -/
def RowAt (w : World) (b : Nat) (T : Nat) (cs : Array Value) : Prop := w.heap[b]? = some (.cells cs T (0, 0))

theorem RowAt.below {w w' : World} {b B T : Nat} {cs : Array Value} (h : RowAt w b T cs) (hb : Below B w w') (hB : b < B) : RowAt w' b T cs := (hb.block b hB).trans h
theorem RowAt.run {w w' : World} {b T : Nat} {cs : Array Value} (h : RowAt w b T cs) (hb : Below w.heap.size w w') : RowAt w' b T cs := (hb.block b (lt_of_block h)).trans h
theorem RowAt.far {w : World} {b T : Nat} {cs : Array Value} {p : Addr} {u : Value} (h : RowAt w b T cs) (hne : b ≠ p.block) : RowAt (w.setCell p u) b T cs := (heap_setCell_other w p b u hne).trans h
theorem RowAt.alloc {w : World} {b T : Nat} {cs : Array Value} (h : RowAt w b T cs) (o : Obj) : RowAt (w.alloc o) b T cs := (Below.heap_alloc w o b (lt_of_block h)).trans h
theorem RowAt.drewN {w : World} {b T : Nat} {cs : Array Value} (h : RowAt w b T cs) (n : Nat) : RowAt (w.drewN n) b T cs := h
theorem RowAt.drew {w : World} {b T : Nat} {cs : Array Value} (h : RowAt w b T cs) : RowAt w.drew b T cs := h
theorem RowAt.new (w : World) (T : Nat) (cs : Array Value) : RowAt (w.alloc (.cells cs T)) w.heap.size T cs := heap_alloc_new w _
theorem RowAt.mk {w : World} {b T : Nat} {cs cs' : Array Value} (hb : b = w.heap.size) (hc : cs' = cs) : RowAt (w.alloc (.cells cs' T)) b T cs := by
  subst hb hc
  exact heap_alloc_new w _
theorem RowAt.set {w : World} {b T : Nat} {cs cs' : Array Value} {i : Nat} {u : Value} (h : RowAt w b T cs) (he : cs.setIfInBounds i u = cs') : RowAt (w.setCell ⟨b, i, none⟩ u) b T cs' := by
  unfold RowAt at *
  rw [heap_setCell_same w b i _ _ u h, he]
theorem RowAt.upd {w w' : World} {b k T : Nat} {cs : Array Value} (h : RowAt w k T cs) (hu : Upd b w w') (hne : k ≠ b) : RowAt w' k T cs := (hu.block k (lt_of_block h) (by simp; omega)).trans h

theorem row_facts {w : World} {b T : Nat} {cs : Array Value} (h : RowAt w b T cs) :
    (∀ o, w.cell? ⟨b, o, none⟩ = cs[o]?) ∧ (∀ o, w.frozen? ⟨b, o, none⟩ = false) ∧ b < w.heap.size ∧ b ≤ w.heap.size ∧ ¬ b = w.heap.size ∧ ¬ w.heap.size = b := by
  have hlt := lt_of_block h
  exact ⟨fun o => cell_of_row w b o _ _ _ h, fun o => frozen_of_row w b o _ _ h, hlt, by omega, by omega, by omega⟩

/-- Six cells of a message, stored one by one. -/
theorem RowAt.six {w : World} {k T : Nat} {a b c d e f v0 v1 v2 v3 v4 v5 : Value} (h : RowAt w k T #[a, b, c, d, e, f]) :
    RowAt ((((((w.setCell ⟨k, 0, none⟩ v0).setCell ⟨k, 1, none⟩ v1).setCell ⟨k, 2, none⟩ v2).setCell ⟨k, 3, none⟩ v3).setCell ⟨k, 4, none⟩ v4).setCell ⟨k, 5, none⟩ v5) k T #[v0, v1, v2, v3, v4, v5] := by
  have h0 : RowAt _ k T #[v0, b, c, d, e, f] := RowAt.set (i := 0) (u := v0) h rfl
  have h1 : RowAt _ k T #[v0, v1, c, d, e, f] := RowAt.set (i := 1) (u := v1) h0 rfl
  have h2 : RowAt _ k T #[v0, v1, v2, d, e, f] := RowAt.set (i := 2) (u := v2) h1 rfl
  have h3 : RowAt _ k T #[v0, v1, v2, v3, e, f] := RowAt.set (i := 3) (u := v3) h2 rfl
  have h4 : RowAt _ k T #[v0, v1, v2, v3, v4, f] := RowAt.set (i := 4) (u := v4) h3 rfl
  exact RowAt.set h4 rfl

/-- Seven cells of a device, stored one by one. -/
theorem RowAt.seven {w : World} {k T : Nat} {a b c d e f g v0 v1 v2 v3 v4 v5 v6 : Value} (h : RowAt w k T #[a, b, c, d, e, f, g]) :
    RowAt (((((((w.setCell ⟨k, 0, none⟩ v0).setCell ⟨k, 1, none⟩ v1).setCell ⟨k, 2, none⟩ v2).setCell ⟨k, 3, none⟩ v3).setCell ⟨k, 4, none⟩ v4).setCell ⟨k, 5, none⟩ v5).setCell ⟨k, 6, none⟩ v6) k T #[v0, v1, v2, v3, v4, v5, v6] := by
  have h0 : RowAt _ k T #[v0, b, c, d, e, f, g] := RowAt.set (i := 0) (u := v0) h rfl
  have h1 : RowAt _ k T #[v0, v1, c, d, e, f, g] := RowAt.set (i := 1) (u := v1) h0 rfl
  have h2 : RowAt _ k T #[v0, v1, v2, d, e, f, g] := RowAt.set (i := 2) (u := v2) h1 rfl
  have h3 : RowAt _ k T #[v0, v1, v2, v3, e, f, g] := RowAt.set (i := 3) (u := v3) h2 rfl
  have h4 : RowAt _ k T #[v0, v1, v2, v3, v4, f, g] := RowAt.set (i := 4) (u := v4) h3 rfl
  have h5 : RowAt _ k T #[v0, v1, v2, v3, v4, v5, g] := RowAt.set (i := 5) (u := v5) h4 rfl
  exact RowAt.set h5 rfl

end Go.Proofs.YtjeigphhepngmaaGreatDoor

namespace Go.Proofs.YtjeigphhepngmaaGreatDoor
open Go.RowKit

theorem RowAt.far1 {w : World} {b g i T : Nat} {cs : Array Value} {u : Value} (h : RowAt w b T cs) (hne : ¬ b = g) : RowAt (w.setCell ⟨g, i, none⟩ u) b T cs := h.far hne
theorem RowAt.far6 {w : World} {b g T : Nat} {cs : Array Value} {v0 v1 v2 v3 v4 v5 : Value} (h : RowAt w b T cs) (hne : ¬ b = g) : RowAt ((((((w.setCell ⟨g, 0, none⟩ v0).setCell ⟨g, 1, none⟩ v1).setCell ⟨g, 2, none⟩ v2).setCell ⟨g, 3, none⟩ v3).setCell ⟨g, 4, none⟩ v4).setCell ⟨g, 5, none⟩ v5) b T cs := (((((h.far1 hne).far1 hne).far1 hne).far1 hne).far1 hne).far1 hne
theorem RowAt.far7 {w : World} {b g T : Nat} {cs : Array Value} {v0 v1 v2 v3 v4 v5 v6 : Value} (h : RowAt w b T cs) (hne : ¬ b = g) : RowAt (((((((w.setCell ⟨g, 0, none⟩ v0).setCell ⟨g, 1, none⟩ v1).setCell ⟨g, 2, none⟩ v2).setCell ⟨g, 3, none⟩ v3).setCell ⟨g, 4, none⟩ v4).setCell ⟨g, 5, none⟩ v5).setCell ⟨g, 6, none⟩ v6) b T cs := ((((((h.far1 hne).far1 hne).far1 hne).far1 hne).far1 hne).far1 hne).far1 hne
theorem below_one {B : Nat} {a w : World} {g i : Nat} {u : Value} (h : Below B a w) (hg : B ≤ g) : Below B a (w.setCell ⟨g, i, none⟩ u) := h.setCell hg _
theorem below_six {B : Nat} {a w : World} {g : Nat} {v0 v1 v2 v3 v4 v5 : Value} (h : Below B a w) (hg : B ≤ g) : Below B a ((((((w.setCell ⟨g, 0, none⟩ v0).setCell ⟨g, 1, none⟩ v1).setCell ⟨g, 2, none⟩ v2).setCell ⟨g, 3, none⟩ v3).setCell ⟨g, 4, none⟩ v4).setCell ⟨g, 5, none⟩ v5) := below_one (below_one (below_one (below_one (below_one (below_one h hg) hg) hg) hg) hg) hg
theorem below_seven {B : Nat} {a w : World} {g : Nat} {v0 v1 v2 v3 v4 v5 v6 : Value} (h : Below B a w) (hg : B ≤ g) : Below B a (((((((w.setCell ⟨g, 0, none⟩ v0).setCell ⟨g, 1, none⟩ v1).setCell ⟨g, 2, none⟩ v2).setCell ⟨g, 3, none⟩ v3).setCell ⟨g, 4, none⟩ v4).setCell ⟨g, 5, none⟩ v5).setCell ⟨g, 6, none⟩ v6) := below_one (below_one (below_one (below_one (below_one (below_one (below_one h hg) hg) hg) hg) hg) hg) hg

end Go.Proofs.YtjeigphhepngmaaGreatDoor
