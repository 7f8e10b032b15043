/-
  Arguments that are replies or ranges: what the reading says of their fields.
-/
import Derived.Test.YtdklpmaeajpacaaDoorOpn
import Derived.Test.YtdklpmaeajpacaaDoorSeqs
import Derived.Deep.Slices
namespace Go.Proofs.YtdklpmaeajpacaaDoor
open Go.ChangeShapes Go.WideShapes Go.ChangeAt Go.RowKit
open Go.ChangeMaps (open_string shut_string)
open Go.Deep

set_option maxRecDepth 100000 in
theorem open_reply {H : Type} {enc : TypeId × Value → H} {w : World} {base : Nat} {spare : Nat → Bool} {held : Bool} {r : Reach} {b0 : Nat} {v : Value} {d : DataW H} {p : List MemPlace}
    (hv : Value.okWide Tryd.prog w r b0 67 v) (h : DataW.Trod enc Tryd.prog w base spare held 67 v d p) :
    ∃ (f : Int) (s : ByteArray) (rs : Int), v = .agg #[.int .u64 f, .string s, .int .i64 rs] ∧ (Lit.int .u64 f).wf = true ∧ s.size ≤ maxLen ∧ (Lit.int .i64 rs).wf = true := by
  obtain ⟨cs, rfl, hsz⟩ := okWide_struct Tryd.underlying67 hv
  have hC : Tryd.prog.cellsOf 67 = 3 := by kernel_rfl
  have kint : Tryd.prog.cellsOf 3 = 1 := by kernel_rfl
  have kstr : Tryd.prog.cellsOf 9 = 1 := by kernel_rfl
  have ku64 : Tryd.prog.cellsOf 22 = 1 := by kernel_rfl
  obtain ⟨l⟩ := cs
  match l, hsz.trans hC with
  | [c0, c1, c2], _ =>
    obtain ⟨fuel, hf⟩ := h
    obtain ⟨xs, n, _, _, _, hlen, hg⟩ := DataW.trod_struct Tryd.underlying67 hf
    match xs, hlen with
    | [y0, y1, y2], _ =>
      have g0 : DataW.trod enc Tryd.prog w base spare held n 22 [c0] = some y0 := by simpa [Value.cells, kint, kstr, ku64] using hg 0 _ rfl
      obtain ⟨f, e0, _, w0⟩ := DataW.trod_int Tryd.underlying22 g0
      simp only [List.cons.injEq, and_true] at e0
      subst e0
      have g1 : DataW.trod enc Tryd.prog w base spare held n 9 [c1] = some y1 := by simpa [Value.cells, kint, kstr, ku64] using hg 1 _ rfl
      obtain ⟨s, e1, _, w1⟩ := DataW.trod_string Tryd.underlying9 g1
      simp only [List.cons.injEq, and_true] at e1
      subst e1
      have g2 : DataW.trod enc Tryd.prog w base spare held n 3 [c2] = some y2 := by simpa [Value.cells, kint, kstr, ku64] using hg 2 _ rfl
      obtain ⟨rs, e2, _, w2⟩ := DataW.trod_int Tryd.underlying3 g2
      simp only [List.cons.injEq, and_true] at e2
      subst e2
      exact ⟨f, s, rs, rfl, w0, w1, w2⟩

set_option maxRecDepth 100000 in
theorem open_search {H : Type} {enc : TypeId × Value → H} {w : World} {base : Nat} {spare : Nat → Bool} {held : Bool} {r : Reach} {b0 : Nat} {v : Value} {d : DataW H} {p : List MemPlace}
    (hv : Value.okWide Tryd.prog w r b0 51 v) (h : DataW.Trod enc Tryd.prog w base spare held 51 v d p) :
    ∃ (fr : Int) (sq : Int) (lo : Int) (hi : Int), v = .agg #[.int .u64 fr, .int .i64 sq, .int .u64 lo, .int .u64 hi] ∧ (Lit.int .u64 fr).wf = true ∧ (Lit.int .i64 sq).wf = true ∧ (Lit.int .u64 lo).wf = true ∧ (Lit.int .u64 hi).wf = true := by
  obtain ⟨cs, rfl, hsz⟩ := okWide_struct Tryd.underlying51 hv
  have hC : Tryd.prog.cellsOf 51 = 4 := by kernel_rfl
  have kint : Tryd.prog.cellsOf 3 = 1 := by kernel_rfl
  have ku64 : Tryd.prog.cellsOf 22 = 1 := by kernel_rfl
  obtain ⟨l⟩ := cs
  match l, hsz.trans hC with
  | [c0, c1, c2, c3], _ =>
    obtain ⟨fuel, hf⟩ := h
    obtain ⟨xs, n, _, _, _, hlen, hg⟩ := DataW.trod_struct Tryd.underlying51 hf
    match xs, hlen with
    | [y0, y1, y2, y3], _ =>
      have g0 : DataW.trod enc Tryd.prog w base spare held n 22 [c0] = some y0 := by simpa [Value.cells, kint, ku64] using hg 0 _ rfl
      obtain ⟨fr, e0, _, w0⟩ := DataW.trod_int Tryd.underlying22 g0
      simp only [List.cons.injEq, and_true] at e0
      subst e0
      have g1 : DataW.trod enc Tryd.prog w base spare held n 3 [c1] = some y1 := by simpa [Value.cells, kint, ku64] using hg 1 _ rfl
      obtain ⟨sq, e1, _, w1⟩ := DataW.trod_int Tryd.underlying3 g1
      simp only [List.cons.injEq, and_true] at e1
      subst e1
      have g2 : DataW.trod enc Tryd.prog w base spare held n 22 [c2] = some y2 := by simpa [Value.cells, kint, ku64] using hg 2 _ rfl
      obtain ⟨lo, e2, _, w2⟩ := DataW.trod_int Tryd.underlying22 g2
      simp only [List.cons.injEq, and_true] at e2
      subst e2
      have g3 : DataW.trod enc Tryd.prog w base spare held n 22 [c3] = some y3 := by simpa [Value.cells, kint, ku64] using hg 3 _ rfl
      obtain ⟨hi, e3, _, w3⟩ := DataW.trod_int Tryd.underlying22 g3
      simp only [List.cons.injEq, and_true] at e3
      subst e3
      exact ⟨fr, sq, lo, hi, rfl, w0, w1, w2, w3⟩

theorem list_of2 {α : Type} {P : Nat → α → Prop} (n : Nat) (h : ∀ i, i < n → ∃ d, P i d) : ∃ l : List α, l.length = n ∧ ∀ i d, l[i]? = some d → P i d := by
  induction n with
  | zero => exact ⟨[], rfl, fun i d h => by simp at h⟩
  | succ n ih =>
    obtain ⟨l, hl, hp⟩ := ih fun i hi => h i (by omega)
    obtain ⟨d, hd⟩ := h n (by omega)
    refine ⟨l ++ [d], by simp [hl], fun i d' hd' => ?_⟩
    by_cases hi : i < n
    · rw [List.getElem?_append_left (by omega)] at hd'
      exact hp i d' hd'
    · rw [List.getElem?_append_right (by omega), hl] at hd'
      have : i = n := by
        by_cases h0 : i - n = 0
        · omega
        · rw [List.getElem?_eq_none (by simp; omega)] at hd'; cases hd'
      subst this
      simp at hd'
      subst hd'
      exact hd

theorem add_plain2 (b off k : Nat) : (⟨b, off, none⟩ : Addr).add k = ⟨b, off + k, none⟩ := by unfold Addr.add; split <;> simp_all

set_option maxRecDepth 100000 in
theorem open_strs46 {H : Type} {enc : TypeId × Value → H} {w : World} {base : Nat} {spare : Nat → Bool} {held : Bool} {r : Reach} {b0 : Nat} {v : Value} {d : DataW H} {p : List MemPlace}
    (hv : Value.okWide Tryd.prog w r b0 56 v) (h : DataW.Trod enc Tryd.prog w base spare held 56 v d p) :
    (v = .slice none 0 0 ∧ d = .nil) ∨ ∃ (elems sp : List (DataW H)) (l : List ByteArray), d = .slice elems sp ∧ elems.length = l.length ∧ (l.length ≤ 140737488351232 → StrsAt w v l) := by
  obtain ⟨a0, len0, cap0, rfl⟩ := okWide_slice Tryd.underlying56 hv
  have hC : Tryd.prog.cellsOf 9 = 1 := by kernel_rfl
  obtain ⟨fuel, hf⟩ := h
  rcases open_slice Tryd.underlying56 hf with ⟨hcs, hx⟩ | ⟨a, len, cap, m, n, D, Pl, hcs, hb, hl, hm, hmm, hx, hi⟩
  · simp [Value.cells] at hcs
    obtain ⟨rfl, rfl, rfl⟩ := hcs
    simp only [Prod.mk.injEq] at hx
    exact .inl ⟨rfl, hx.1⟩
  · simp [Value.cells] at hcs
    obtain ⟨rfl, rfl, rfl⟩ := hcs
    simp only [Prod.mk.injEq] at hx
    have hlm : len0 ≤ m := by rw [hmm]; split <;> omega
    have hd : ∀ i, i < len0 → ∃ s : ByteArray, w.cell? (a.add i) = some (.string s) := by
      intro i hi0
      obtain ⟨cs', hc, ht⟩ := hi i (by omega)
      rw [hC, Nat.mul_one] at hc
      obtain ⟨_, hcl, hat⟩ := World.cells?_some hc
      obtain ⟨s, rfl, _⟩ := DataW.trod_string Tryd.underlying9 ht
      refine ⟨s, ?_⟩
      have := hat 0 (by omega)
      simpa [Addr.add] using this
    obtain ⟨l, hl2, hp⟩ := list_of2 len0 hd
    refine .inr ⟨_, _, l, hx.1, by simp [hl2], fun hbig => ?_⟩
    subst hl2
    by_cases h0 : l.length = 0
    · exact .inl ⟨h0, some a, cap0, by rw [h0]⟩
    · have hsome : ∀ k (hk : k < l.length), l[k]? = some l[k] := fun k hk => List.getElem?_eq_getElem hk
      have hfirst := hp 0 _ (hsome 0 (by omega))
      obtain ⟨b, off, spot⟩ := a
      have hspot : spot = none := by simpa [Addr.add] using World.cell?_spot hfirst
      subst hspot
      refine .inr ⟨by omega, hbig, b, off, cap0, rfl, ?_, fun j hj => ?_⟩
      · have := World.block_lt_of_cell? w _ hfirst
        simpa [add_plain2] using this
      · have hk : j < l.length := by omega
        have := hp j _ (hsome _ hk)
        rw [add_plain2] at this
        rw [this, strsC, hsome _ hk]
        rfl

end Go.Proofs.YtdklpmaeajpacaaDoor
