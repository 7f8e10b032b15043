/-
  Arguments that are lists of texts: what the reading says of them.
-/
import Derived.Test.YtndkpdiacabjgaaGreatDoorRows
import Derived.Test.YtndkpdiacabjgaaGreatDoorSeqs
import Derived.WalkKit
import Derived.ProofKit
import Derived.OpenShut
import Derived.ShutString
import Derived.ChangeOld
import Derived.Below
import Derived.Deep.Slices
namespace Go.Proofs.YtndkpdiacabjgaaGreatDoor
open Go.ChangeShapes Go.WideShapes Go.ChangeAt Go.RowKit
open Go.ChangeMaps (open_string shut_string)
open Go.Deep

theorem list_of2 {α : Type} {P : Nat → α → Prop} (n : Nat) (h : ∀ i, i < n → ∃ d, P i d) : ∃ l : List α, l.length = n ∧ ∀ i d, l[i]? = some d → P i d := by
  induction n with
  | zero => exact ⟨[], rfl, fun i d h => by simp at h⟩
  | succ n ih =>
    obtain ⟨l, hl, hp⟩ := ih fun i hi => h i (by omega)
    obtain ⟨d, hd⟩ := h n (by omega)
    refine ⟨l ++ [d], by simp [hl], fun i d' hd' => ?_⟩
    by_cases hi : i < n
    · rw [List.getElem?_append_left (by omega)] at hd'
      exact hp i d' hd'
    · rw [List.getElem?_append_right (by omega), hl] at hd'
      have : i = n := by
        by_cases h0 : i - n = 0
        · omega
        · rw [List.getElem?_eq_none (by simp; omega)] at hd'; cases hd'
      subst this
      simp at hd'
      subst hd'
      exact hd

theorem add_plain2 (b off k : Nat) : (⟨b, off, none⟩ : Addr).add k = ⟨b, off + k, none⟩ := by unfold Addr.add; split <;> simp_all

set_option maxRecDepth 100000 in
theorem open_strs46 {H : Type} {enc : TypeId × Value → H} {w : World} {base : Nat} {spare : Nat → Bool} {held : Bool} {r : Reach} {b0 : Nat} {v : Value} {d : DataW H} {p : List MemPlace}
    (hv : Value.okWide Tryz.prog w r b0 25 v) (h : DataW.Trod enc Tryz.prog w base spare held 25 v d p) :
    (v = .slice none 0 0 ∧ d = .nil) ∨ ∃ (elems sp : List (DataW H)) (l : List ByteArray), d = .slice elems sp ∧ elems.length = l.length ∧ (l.length ≤ 140737488351232 → StrsAt w v l) := by
  obtain ⟨a0, len0, cap0, rfl⟩ := okWide_slice Tryz.underlying25 hv
  have hC : Tryz.prog.cellsOf 9 = 1 := by kernel_rfl
  obtain ⟨fuel, hf⟩ := h
  rcases open_slice Tryz.underlying25 hf with ⟨hcs, hx⟩ | ⟨a, len, cap, m, n, D, Pl, hcs, hb, hl, hm, hmm, hx, hi⟩
  · simp [Value.cells] at hcs
    obtain ⟨rfl, rfl, rfl⟩ := hcs
    simp only [Prod.mk.injEq] at hx
    exact .inl ⟨rfl, hx.1⟩
  · simp [Value.cells] at hcs
    obtain ⟨rfl, rfl, rfl⟩ := hcs
    simp only [Prod.mk.injEq] at hx
    have hlm : len0 ≤ m := by rw [hmm]; split <;> omega
    have hd : ∀ i, i < len0 → ∃ s : ByteArray, w.cell? (a.add i) = some (.string s) := by
      intro i hi0
      obtain ⟨cs', hc, ht⟩ := hi i (by omega)
      rw [hC, Nat.mul_one] at hc
      obtain ⟨_, hcl, hat⟩ := World.cells?_some hc
      obtain ⟨s, rfl, _⟩ := DataW.trod_string Tryz.underlying9 ht
      refine ⟨s, ?_⟩
      have := hat 0 (by omega)
      simpa [Addr.add] using this
    obtain ⟨l, hl2, hp⟩ := list_of2 len0 hd
    refine .inr ⟨_, _, l, hx.1, by simp [hl2], fun hbig => ?_⟩
    subst hl2
    by_cases h0 : l.length = 0
    · exact .inl ⟨h0, some a, cap0, by rw [h0]⟩
    · have hsome : ∀ k (hk : k < l.length), l[k]? = some l[k] := fun k hk => List.getElem?_eq_getElem hk
      have hfirst := hp 0 _ (hsome 0 (by omega))
      obtain ⟨b, off, spot⟩ := a
      have hspot : spot = none := by simpa [Addr.add] using World.cell?_spot hfirst
      subst hspot
      refine .inr ⟨by omega, hbig, b, off, cap0, rfl, ?_, fun j hj => ?_⟩
      · have := World.block_lt_of_cell? w _ hfirst
        simpa [add_plain2] using this
      · have hk : j < l.length := by omega
        have := hp j _ (hsome _ hk)
        rw [add_plain2] at this
        rw [this, strsC, hsome _ hk]
        rfl

end Go.Proofs.YtndkpdiacabjgaaGreatDoor
