/-
  An argument that is a slice of ranges: what the reading says.
-/
import Derived.Test.YtndkpdiacabjgaaGreatDoorOpnP
import Derived.Test.YtndkpdiacabjgaaGreatDoorGb
import Derived.Deep.Slices
namespace Go.Proofs.YtndkpdiacabjgaaGreatDoor
open Go.ChangeShapes Go.WideShapes Go.ChangeAt Go.RowKit Go.Deep

set_option maxRecDepth 100000 in
theorem rng_cs {H : Type} {enc : TypeId × Value → H} {w : World} {base n : Nat} {spare : Nat → Bool} {held : Bool} {cs : List Value} {x : DataW H × List MemPlace}
    (hsz : cs.length = 2) (hf : DataW.trod enc Tryz.prog w base spare held n 42 cs = some x) : ∃ d : Int × Int, cs = (rngA d).toList := by
  have ki : Tryz.prog.cellsOf 3 = 1 := by kernel_rfl
  match cs, hsz with
  | [c0, c1], _ =>
    obtain ⟨xs, n, _, _, _, hlen, hg⟩ := DataW.trod_struct Tryz.underlying42 hf
    match xs, hlen with
    | [y0, y1], _ =>
      have g0 : DataW.trod enc Tryz.prog w base spare held n 3 [c0] = some y0 := by simpa [Value.cells, ki] using hg 0 _ rfl
      obtain ⟨a, e0, _, _⟩ := DataW.trod_int Tryz.underlying3 g0
      simp only [List.cons.injEq, and_true] at e0
      subst e0
      have g1 : DataW.trod enc Tryz.prog w base spare held n 3 [c1] = some y1 := by simpa [Value.cells, ki] using hg 1 _ rfl
      obtain ⟨b, e1, _, _⟩ := DataW.trod_int Tryz.underlying3 g1
      simp only [List.cons.injEq, and_true] at e1
      subst e1
      exact ⟨(a, b), rfl⟩

set_option maxRecDepth 100000 in
theorem open_rngs {H : Type} {enc : TypeId × Value → H} {w : World} {base : Nat} {spare : Nat → Bool} {held : Bool} {r : Reach} {b0 : Nat} {v : Value} {d : DataW H} {p : List MemPlace}
    (hv : Value.okWide Tryz.prog w r b0 33 v) (h : DataW.Trod enc Tryz.prog w base spare held 33 v d p) :
    (v = .slice none 0 0 ∧ d = .nil) ∨ ∃ (elems sp : List (DataW H)) (l : List (Int × Int)), d = .slice elems sp ∧ elems.length = l.length ∧ (l.length ≤ 140737488351232 → RngsAt w v l) := by
  obtain ⟨a0, len0, cap0, rfl⟩ := okWide_slice Tryz.underlying33 hv
  have hC : Tryz.prog.cellsOf 42 = 2 := by kernel_rfl
  obtain ⟨fuel, hf⟩ := h
  rcases open_slice Tryz.underlying33 hf with ⟨hcs, hx⟩ | ⟨a, len, cap, m, n, D, Pl, hcs, hb, hl, hm, hmm, hx, hi⟩
  · simp [Value.cells] at hcs
    obtain ⟨rfl, rfl, rfl⟩ := hcs
    simp only [Prod.mk.injEq] at hx
    exact .inl ⟨rfl, hx.1⟩
  · simp [Value.cells] at hcs
    obtain ⟨rfl, rfl, rfl⟩ := hcs
    simp only [Prod.mk.injEq] at hx
    have hlm : len0 ≤ m := by rw [hmm]; split <;> omega
    have hd : ∀ i, i < len0 → ∃ d : Int × Int, ∀ j, j < 2 → w.cell? ((a.add (i * 2)).add j) = (rngA d)[j]? := by
      intro i hi0
      obtain ⟨cs', hc, ht⟩ := hi i (by omega)
      rw [hC] at hc
      obtain ⟨_, hcl, hat⟩ := World.cells?_some hc
      obtain ⟨d, rfl⟩ := rng_cs hcl ht
      refine ⟨d, fun j hj => ?_⟩
      rw [hat j hj]
      simp
    obtain ⟨l, hl2, hp⟩ := list_of2 len0 hd
    refine .inr ⟨_, _, l, hx.1, by simp [hl2], fun hbig => ?_⟩
    subst hl2
    by_cases h0 : l.length = 0
    · exact .inl ⟨h0, some a, cap0, by rw [h0]⟩
    · have hsome : ∀ k (hk : k < l.length), l[k]? = some l[k] := fun k hk => List.getElem?_eq_getElem hk
      have hfirst := hp 0 _ (hsome 0 (by omega)) 0 (by decide)
      obtain ⟨b, off, spot⟩ := a
      have hspot : spot = none := by simpa [Addr.add] using World.cell?_spot (hfirst.trans rfl)
      subst hspot
      refine .inr ⟨by omega, hbig, b, off, cap0, rfl, ?_, fun j hj => ?_⟩
      · have := World.block_lt_of_cell? w _ (hfirst.trans rfl)
        simpa [add_plain2] using this
      · have hk : j / 2 < l.length := by omega
        have := hp (j / 2) _ (hsome _ hk) (j % 2) (by omega)
        rw [add_plain2, add_plain2, show off + j / 2 * 2 + j % 2 = off + j from by omega] at this
        rw [this, rngsC, hsome _ hk]
        rfl

end Go.Proofs.YtndkpdiacabjgaaGreatDoor
