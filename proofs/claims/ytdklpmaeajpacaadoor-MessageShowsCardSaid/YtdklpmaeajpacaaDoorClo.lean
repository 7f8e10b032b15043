/-
  A copy of a list of texts, and the same turned round.
-/
import Derived.Test.YtdklpmaeajpacaaDoorSeqs
import Derived.Test.YtdklpmaeajpacaaDoorShf
namespace Go.Proofs.YtdklpmaeajpacaaDoor
open Go.RowKit

/-- A list of texts that the call itself holds. -/
def OwnS (w : World) (B : Nat) (v : Value) (l : List ByteArray) : Prop := w.ownsRow B 9 1 v l.length (l.map Value.string)

theorem clone_any (v : Value) (l : List ByteArray) (w : World) (hv : StrsAt w v l) (hl : l.length ≤ 64) :
    Calls Tryd.prog 34 #[v] w fun e w' => ∃ v', e = .returned v' ∧ OwnS w' w.heap.size v' l ∧ Below w.heap.size w w' := by
  rcases hv with ⟨h0, a, cap, rfl⟩ | ⟨h0, h1, b, off, cap, rfl, hlt, hc⟩
  · obtain rfl : l = [] := List.eq_nil_of_length_eq_zero h0
    cases a with
    | none => exact (Tryd.slices_Clone_string_nil 0 cap w).mono fun e w' ⟨he, hw⟩ => by subst hw; exact ⟨_, he, World.ownsRow_nil _ _ _ _, Below.refl _ _⟩
    | some a => exact (Tryd.slices_Clone_string_zero a cap w).mono fun e w' ⟨v', he, ho, _, hb⟩ => ⟨v', he, ho, hb⟩
  · refine (Tryd.slices_Clone_string b off l.length cap l w (Nat.le_refl _) (by omega) (fun j hj => ?_)).mono fun e w' ⟨v', he, ho, _, hb⟩ => ⟨v', he, ?_, hb⟩
    · rw [hc j (by omega), strsC, List.getElem?_eq_getElem hj, List.getD_eq_getElem?_getD, List.getElem?_eq_getElem hj]
      rfl
    · rw [List.take_length] at ho
      exact ho

theorem set_row {g T : Nat} (vs : List Value) : ∀ (o : Nat) (w : World) (cur : Array Value), w.heap[g]? = some (.cells cur T (0, 0)) → o + vs.length ≤ cur.size →
    ∃ cur' : Array Value, (w.setCells g o vs).heap[g]? = some (.cells cur' T (0, 0)) ∧ cur'.toList = cur.toList.take o ++ vs ++ cur.toList.drop (o + vs.length) := by
  induction vs with
  | nil => intro o w cur h _; exact ⟨cur, h, by simp⟩
  | cons x vs ih =>
    intro o w cur h hle
    rw [List.length_cons] at hle
    obtain ⟨cur', h1, h2⟩ := ih (o + 1) (w.setCell ⟨g, o, none⟩ x) (cur.setIfInBounds o x) (heap_setCell_same w g o _ _ _ h) (by simp; omega)
    refine ⟨cur', h1, ?_⟩
    rw [h2, Array.toList_setIfInBounds, List.set_eq_take_append_cons_drop, if_pos (by simp; omega)]
    have hl : (List.take o cur.toList).length = o := by simp; omega
    rw [List.take_append, hl, List.drop_append, hl]
    have t1 : List.take (o + 1) (List.take o cur.toList) = List.take o cur.toList := List.take_of_length_le (by omega)
    have t2 : List.drop (o + 1 + vs.length) (List.take o cur.toList) = [] := List.drop_of_length_le (by omega)
    simp [t1, t2, List.drop_drop, show o + 1 + vs.length - o = vs.length + 1 by omega, show o + 1 - o = 1 by omega, show o + (vs.length + 1) = o + 1 + vs.length by omega]

theorem below_cells {B g : Nat} {a : World} (hb : B ≤ g) (vs : List Value) : ∀ (o : Nat) (w : World), Below B a w → Below B a (w.setCells g o vs) := by
  induction vs with
  | nil => intro o w h; exact h
  | cons x vs ih => intro o w h; exact ih _ _ (Below.setCell h hb _)

theorem strsOf_getD (l : List ByteArray) : (Lib.strsOf (fun i => l.getD i ByteArray.empty) l.length).reverse.map encStr = l.reverse.map Value.string := by
  rw [List.map_reverse, List.map_reverse]
  congr 1
  apply List.ext_getElem?
  intro i
  by_cases h : i < l.length
  · simp [Lib.strsOf, h, encStr]
  · simp [Lib.strsOf, h]

theorem reverse_any (v : Value) (l : List ByteArray) (w : World) (B : Nat) (hv : OwnS w B v l) (hl : l.length ≤ 64) (hB : B ≤ w.heap.size) :
    Calls Tryd.prog 35 #[v] w fun e w' => e = .returned (.tuple #[]) ∧ OwnS w' B v l.reverse ∧ Below B w w' := by
  rcases hv.2 with ⟨rfl, hn⟩ | ⟨g, cap, cur, rfl, hb, hg, hnc, hcm, hcs, htake⟩
  · obtain rfl : l = [] := List.eq_nil_of_length_eq_zero hn
    exact (Tryd.slices_Reverse_string_empty none 0 w).mono fun e w' ⟨he, hw⟩ => by subst hw; exact ⟨he, World.ownsRow_nil _ _ _ _, Below.refl _ _⟩
  · refine (Tryd.slices_Reverse_string_cells g 0 l.length cap (fun i => l.getD i ByteArray.empty) w (by omega) (fun i hi => ?_) (fun j hj => ?_)).mono fun e w' ⟨he, q, hw⟩ => ?_
    · rw [Nat.zero_add, cell_of_row w g i _ _ _ hg]
      have e : (l.map Value.string)[i]? = some (.string l[i]) := by simp [List.getElem?_eq_getElem hi]
      rw [← htake, List.getElem?_take, if_pos (by omega)] at e
      rw [List.getD_eq_getElem?_getD, List.getElem?_eq_getElem hi]
      simpa using e
    · rw [Nat.zero_add]
      exact frozen_of_row w g j _ _ hg
    · subst hw
      rw [strsOf_getD]
      obtain ⟨cur', h1, h2⟩ := set_row (l.reverse.map Value.string) 0 (w.drewN q) cur hg (by simp; omega)
      have hs : cur'.size = cur.size := by
        rw [← Array.length_toList, h2]; simp; omega
      refine ⟨he, ⟨by simp, .inr ⟨g, cap, cur', by simp, hb, h1, by simpa using hnc, hcm, by rw [hs]; exact hcs, ?_⟩⟩, ?_⟩
      · rw [h2]; simp
      · exact below_cells hb _ _ _ (below_drewN (Below.refl _ _) _)

end Go.Proofs.YtdklpmaeajpacaaDoor
