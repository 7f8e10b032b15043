/-
  Slices: what they hold, and what the call itself makes.
-/
import Derived.Test.YtndkpdiacabjgaaGreatDoorProg
import Derived.Test.YtndkpdiacabjgaaGreatDoorRow
namespace Go.Proofs.YtndkpdiacabjgaaGreatDoor
open Go.RowKit

/-- A slice value of n elements of S cells each holds the cells cs. -/
def SeqAt (w : World) (S : Nat) (v : Value) (n : Nat) (cs : Nat → Option Value) : Prop :=
  (n = 0 ∧ ∃ a cap, v = .slice a 0 cap) ∨ (0 < n ∧ n ≤ 140737488351232 ∧ ∃ b off cap, v = .slice (some ⟨b, off, none⟩) n cap ∧ b < w.heap.size ∧ ∀ j, j < n * S → w.cell? ⟨b, off + j, none⟩ = cs j)

theorem SeqAt.below {w w' : World} {S n : Nat} {v : Value} {cs : Nat → Option Value} (h : SeqAt w S v n cs) (hb : Below w.heap.size w w') : SeqAt w' S v n cs := by
  rcases h with h | ⟨h0, h1, b, off, cap, rfl, hlt, hc⟩
  · exact .inl h
  · exact .inr ⟨h0, h1, b, off, cap, rfl, Nat.lt_of_lt_of_le hlt hb.size, fun j hj => (hb.cell (p := ⟨b, off + j, none⟩) hlt).trans (hc j hj)⟩

theorem take_succ_some {α : Type} {l : List α} {k : Nat} {d : α} (h : l[k]? = some d) : l.take (k + 1) = l.take k ++ [d] := by
  rw [List.take_add_one, h]
  rfl

theorem own_seq {w : World} {base T S n : Nat} {v : Value} {xs : List Value} {cs : Nat → Option Value} (h : w.ownsRow base T S v n xs) (hn : n ≤ 140737488351232) (hx : ∀ j : Nat, xs[j]? = cs j) : SeqAt w S v n cs := by
  rcases h.2 with ⟨rfl, rfl⟩ | ⟨g, cap, cur, rfl, hb, hg, hnc, hcm, hcs, htake⟩
  · exact .inl ⟨rfl, _, _, rfl⟩
  · by_cases h0 : n = 0
    · subst h0
      exact .inl ⟨rfl, _, _, rfl⟩
    · refine .inr ⟨by omega, hn, g, 0, cap, rfl, lt_of_block hg, fun j hj => ?_⟩
      rw [Nat.zero_add, h.cellAt j hj, hx]

theorem below_grown {B : Nat} {a w w' : World} {v : Value} {base T S n : Nat} {xs : List Value} (h : Below B a w) (hown : w.ownsRow base T S v n xs) (hB : B ≤ base) (hg : w.grownBy w' v.ownBlock) (hs : B ≤ w.heap.size) : Below B a w' := by
  refine h.trans ⟨hg.os, hg.tape, hg.output, hg.size, fun k hk => hg.block k (by omega) (fun e => ?_)⟩
  have := (hown.lt k e.symm).1
  omega

/-- A slice value holds a list of texts. -/
def strsC (l : List ByteArray) (j : Nat) : Option Value := (l[j]?).map Value.string
def StrsAt (w : World) (v : Value) (l : List ByteArray) : Prop := SeqAt w 1 v l.length (strsC l)

/-- The cell of one text of a list. -/
theorem str_cell {w : World} {b off : Nat} {l : List ByteArray} (hc : ∀ j, j < l.length * 1 → w.cell? ⟨b, off + j, none⟩ = strsC l j) (k : Nat) (hk : k < l.length) :
    ∃ s, l[k]? = some s ∧ w.cell? ⟨b, off + k, none⟩ = some (.string s) := by
  refine ⟨l[k], List.getElem?_eq_getElem hk, ?_⟩
  rw [hc k (by omega), strsC, List.getElem?_eq_getElem hk]
  rfl

/-- Some bytes that the call itself holds in a slice. -/
def u8L (l : List UInt8) : List Value := l.map fun b => Value.int .u8 (b.toNat : Int)
def OwnB (w : World) (B : Nat) (v : Value) (l : List UInt8) : Prop := w.ownsRow B 5 1 v l.length (u8L l)

theorem u8L_length (l : List UInt8) : (u8L l).length = l.length := by simp [u8L]

theorem ownB_nil (w : World) (B : Nat) : OwnB w B (.slice none 0 0) [] := World.ownsRow_nil _ _ _ _

theorem OwnB.parts {w : World} {B : Nat} {v : Value} {l : List UInt8} (h : OwnB w B v l) (h0 : 0 < l.length) : ∃ g cap, v = .slice (some ⟨g, 0, none⟩) l.length cap ∧ B ≤ g ∧ g < w.heap.size ∧ l.length ≤ cap ∧
    (∀ i (hi : i < l.length), w.cell? ⟨g, i, none⟩ = some (.int .u8 (l[i].toNat : Int))) ∧ (∀ i, w.frozen? ⟨g, i, none⟩ = false) := by
  rcases h.2 with ⟨rfl, hn⟩ | ⟨g, cap, cur, rfl, hb, hg, hnc, hcm, hcs, htake⟩
  · omega
  · refine ⟨g, cap, rfl, hb, lt_of_block hg, hnc, fun i hi => ?_, fun i => frozen_of_row w g i _ _ hg⟩
    rw [cell_of_row w g i _ _ _ hg]
    have e : (u8L l)[i]? = some (.int .u8 (l[i].toNat : Int)) := by simp [u8L, List.getElem?_eq_getElem hi]
    rw [← htake, List.getElem?_take, if_pos (by omega)] at e
    simpa using e

theorem OwnB.shape {w : World} {B : Nat} {v : Value} {l : List UInt8} (h : OwnB w B v l) : ∃ a cap, v = .slice a l.length cap := by
  rcases h.2 with ⟨rfl, hn⟩ | ⟨g, cap, cur, rfl, _⟩
  · exact ⟨none, 0, by rw [hn]⟩
  · exact ⟨_, _, rfl⟩

theorem OwnB.set {w : World} {B g cap : Nat} {l : List UInt8} (h : OwnB w B (.slice (some ⟨g, 0, none⟩) l.length cap) l) (i : Nat) (x : UInt8) : OwnB (w.setCell ⟨g, i, none⟩ (.int .u8 (x.toNat : Int))) B (.slice (some ⟨g, 0, none⟩) l.length cap) (l.set i x) := by
  rcases h.2 with ⟨e, _⟩ | ⟨g', cap', cur, e, hb, hg, hnc, hcm, hcs, htake⟩
  · cases e
  · cases e
    refine ⟨by simp [u8L], .inr ⟨g, cap, cur.setIfInBounds i (.int .u8 (x.toNat : Int)), by simp, hb, heap_setCell_same w g i _ _ _ hg, by simp; exact hnc, hcm, by simp [hcs], ?_⟩⟩
    have e2 : u8L (l.set i x) = (u8L l).set i (.int .u8 (x.toNat : Int)) := by simp [u8L, List.map_set]
    rw [e2, ← htake, List.length_set, Array.toList_setIfInBounds, List.take_set]

theorem OwnB.drewN {w : World} {B : Nat} {v : Value} {l : List UInt8} (h : OwnB w B v l) (n : Nat) : OwnB (w.drewN n) B v l := h
theorem OwnB.drew {w : World} {B : Nat} {v : Value} {l : List UInt8} (h : OwnB w B v l) : OwnB w.drew B v l := h

theorem Tryz.info_byte : (Tryz.prog.info? 5).map (fun i => (i.zero, i.size, i.bytes)) = some (some (.int .u8 0), 1, 1) := by kernel_rfl

theorem strOfNums_L (l : List UInt8) : strOfNums (l.map fun b => (b.toNat : Int)) = str l := by
  simp [strOfNums, str, Function.comp_def]

theorem Tryz.conv_nil (w : World) : (convert 89 9 (.slice none 0 0)).run Tryz.prog w = .ok (.string (str [])) w := by kernel_rfl
theorem conv_own {w : World} {B : Nat} {v : Value} {l : List UInt8} (h : OwnB w B v l) : (convert 89 9 v).run Tryz.prog w = .ok (.string (str l)) w := by
  by_cases h0 : 0 < l.length
  · obtain ⟨g, cap, rfl, _, _, _, hc, _⟩ := h.parts h0
    rw [← strOfNums_L]
    refine run_convert_bytes_arg w 89 5 Tryz.underlying89 Tryz.underlying5 g 0 l.length cap _ (by simp) (fun i hi => ?_) 9 Tryz.underlying9
    rw [Nat.zero_add, hc i hi]
    simp [List.getElem?_map, List.getElem?_eq_getElem hi]
  · have hl : l = [] := List.eq_nil_of_length_eq_zero (by omega)
    subst hl
    rcases h.2 with ⟨rfl, _⟩ | ⟨g, cap, cur, rfl, _⟩
    · exact Tryz.conv_nil w
    · rw [← strOfNums_L]
      exact run_convert_bytes_arg w 89 5 Tryz.underlying89 Tryz.underlying5 g 0 0 cap [] rfl (fun i hi => by omega) 9 Tryz.underlying9

end Go.Proofs.YtndkpdiacabjgaaGreatDoor
