/-
  What all chapters' walks use: facts on memory that calls leave alone, and on parts of texts.
-/
import Derived.WalkKit
import Derived.WalkSpells
import Derived.WalkLawsBesides
import Derived.Lib.Hide
import Derived.Deep.QuietTactic
import Derived.BigQuiet
import Derived.Deep.DeepCutAuto
namespace Go.Proofs.YtndkpdiacabjgaaGreatDoor
open Go.RowKit

/-- A text of some bytes. -/
def str (l : List UInt8) : ByteArray := ⟨l.toArray⟩

theorem ret_bool {a b : Bool} (h : a = b) : Ending.returned (.bool a) = .returned (.bool b) := by rw [h]
theorem ret_int {k : IntKind} {a b : Int} (h : a = b) : Ending.returned (.int k a) = .returned (.int k b) := by rw [h]
theorem ret_str {a b : ByteArray} (h : a = b) : Ending.returned (.string a) = .returned (.string b) := by rw [h]

theorem take_snoc (s : ByteArray) (k : Nat) (h : k < s.size) : s.data.toList.take (k + 1) = s.data.toList.take k ++ [s[k]] := by
  rw [List.take_succ_eq_append_getElem (by simpa using h)]; rfl

theorem bcell {W w1 : World} (hb : Below W.heap.size W w1) : (∀ b o, b < W.heap.size → w1.cell? ⟨b, o, none⟩ = W.cell? ⟨b, o, none⟩) ∧ (∀ b o, b < W.heap.size → w1.frozen? ⟨b, o, none⟩ = W.frozen? ⟨b, o, none⟩) :=
  ⟨fun b o h => hb.cell (p := ⟨b, o, none⟩) h, fun b o h => hb.frozen (p := ⟨b, o, none⟩) h⟩

/-- What a call that leaves old memory alone says of the cells, the marks and the numbers of blocks. -/
theorem bfacts {W w1 : World} {n : Nat} (hb : Below W.heap.size W w1) (hn : n ≤ W.heap.size) :
    (∀ b o, b < n → w1.cell? ⟨b, o, none⟩ = W.cell? ⟨b, o, none⟩) ∧ (∀ b o, b < n → w1.frozen? ⟨b, o, none⟩ = W.frozen? ⟨b, o, none⟩) ∧
    (∀ g, g < n → g < w1.heap.size) ∧ (∀ g, g < n → g ≤ w1.heap.size) ∧ (∀ g, g < n → ¬ g = w1.heap.size) ∧ (∀ g, g < n → ¬ w1.heap.size = g) ∧ n ≤ w1.heap.size := by
  have := hb.size
  obtain ⟨h1, h2⟩ := bcell hb
  refine ⟨fun b o h => h1 b o (by omega), fun b o h => h2 b o (by omega), fun g h => ?_, fun g h => ?_, fun g h => ?_, fun g h => ?_, ?_⟩ <;> omega

theorem bfactsB {W w1 : World} {n B : Nat} (hb : Below B W w1) (hB : n ≤ B) (hn : n ≤ W.heap.size) :
    (∀ b o, b < n → w1.cell? ⟨b, o, none⟩ = W.cell? ⟨b, o, none⟩) ∧ (∀ b o, b < n → w1.frozen? ⟨b, o, none⟩ = W.frozen? ⟨b, o, none⟩) ∧
    (∀ g, g < n → g < w1.heap.size) ∧ (∀ g, g < n → g ≤ w1.heap.size) ∧ (∀ g, g < n → ¬ g = w1.heap.size) ∧ (∀ g, g < n → ¬ w1.heap.size = g) ∧ n ≤ w1.heap.size := by
  have := hb.size
  refine ⟨fun b o h => hb.cell (p := ⟨b, o, none⟩) (Nat.lt_of_lt_of_le h hB), fun b o h => hb.frozen (p := ⟨b, o, none⟩) (Nat.lt_of_lt_of_le h hB), fun g h => ?_, fun g h => ?_, fun g h => ?_, fun g h => ?_, ?_⟩ <;> omega

theorem quiet_left {P : Program} {f : FuncId} {args : Array Value} {w : World} {n : Nat} {v : Value}
    (h : Calls P f args (w.drewN n) fun e w' => e = .returned v ∧ w.drewN n = w') : Calls P f args (w.drewN n) fun e w'' => e = .returned v ∧ ∃ m, w'' = w.drewN m :=
  h.mono fun _ _ ⟨he, hw⟩ => ⟨he, n, hw.symm⟩

theorem below_after {B B' : Nat} {a w w' : World} (h : Below B a w) (hB : B ≤ B') (hb : Below B' w w') : Below B a w' := h.trans (hb.mono hB)

theorem below_drewN {B : Nat} {a w : World} (h : Below B a w) (n : Nat) : Below B a (w.drewN n) := ⟨h.os, h.tape, h.output, h.size, h.block⟩

theorem below_after1 {w w' : World} {o : Obj} (hb : Below (w.alloc o).heap.size (w.alloc o) w') : Below w.heap.size w w' :=
  below_after ((Below.refl _ _).alloc (Nat.le_refl _) _) (by simp) hb

theorem take_extract (s : ByteArray) (n : Nat) : (s.extract 0 n).data.toList = s.data.toList.take n := by
  have h := ByteArray.extract_mk s.data.toList 0 n
  simp at h
  rw [h]
theorem drop_extract (s : ByteArray) (n : Nat) : (s.extract n s.size).data.toList = s.data.toList.drop n := by
  have h := ByteArray.extract_mk s.data.toList n s.size
  simp at h
  rw [h]
  exact List.take_of_length_le (by simp)

end Go.Proofs.YtndkpdiacabjgaaGreatDoor
