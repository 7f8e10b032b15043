/-
  An argument that is an array of two integers: what the reading says.
-/
import Derived.Test.YtnckalgljfplhaaOpen
namespace Go.Proofs.Ytnckalgljfplhaa
open Go.ChangeShapes Go.WideShapes Go.ChangeAt Go.RowKit

theorem okWide_arr {P : Program} {w : World} {r : Reach} {b0 : Nat} {t : TypeId} {v : Value} {n : Nat} {e : TypeId} (ht : P.underlying t = some (.array n e)) (h : Value.okWide P w r b0 t v) : ∃ cs, v = .agg cs ∧ cs.size = P.cellsOf t := by
  simp only [Value.okWide, ht] at h
  obtain ⟨cs, h1, h2, _⟩ := h
  exact ⟨cs, h1, h2⟩

set_option maxRecDepth 100000 in
theorem open_two {H : Type} {enc : TypeId × Value → H} {w : World} {base : Nat} {spare : Nat → Bool} {held : Bool} {r : Reach} {b0 : Nat} {v : Value} {d : DataW H} {p : List MemPlace}
    (hv : Value.okWide Try.prog w r b0 57 v) (h : DataW.Trod enc Try.prog w base spare held 57 v d p) :
    ∃ a b : Int, v = .agg #[.int .i64 a, .int .i64 b] ∧ (Lit.int .i64 a).wf = true ∧ (Lit.int .i64 b).wf = true := by
  obtain ⟨cs, rfl, hsz⟩ := okWide_arr Try.underlying57 hv
  have hC : Try.prog.cellsOf 57 = 2 := by kernel_rfl
  have ki : Try.prog.cellsOf 3 = 1 := by kernel_rfl
  obtain ⟨l⟩ := cs
  match l, hsz.trans hC with
  | [c0, c1], _ =>
    obtain ⟨fuel, hf⟩ := h
    obtain ⟨xs, n, _, _, _, hlen, hg⟩ := DataW.trod_array Try.underlying57 hf
    match xs, hlen with
    | [y0, y1], _ =>
      have g0 : DataW.trod enc Try.prog w base spare held n 3 [c0] = some y0 := by simpa [Value.cells, ki] using hg 0 (by decide)
      have g1 : DataW.trod enc Try.prog w base spare held n 3 [c1] = some y1 := by simpa [Value.cells, ki] using hg 1 (by decide)
      obtain ⟨a, e0, _, w0⟩ := DataW.trod_int Try.underlying3 g0
      simp only [List.cons.injEq, and_true] at e0
      subst e0
      obtain ⟨b, e1, _, w1⟩ := DataW.trod_int Try.underlying3 g1
      simp only [List.cons.injEq, and_true] at e1
      subst e1
      exact ⟨a, b, rfl, w0, w1⟩

end Go.Proofs.Ytnckalgljfplhaa
