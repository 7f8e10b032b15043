/-
  Arguments that are messages, replies, ranges or lists of texts: what the reading says of their fields.
-/
import Derived.Test.YtdklpmaeajpacaaDoorMath
import Derived.Test.YtdklpmaeajpacaaDoorRows
import Derived.WalkKit
import Derived.ProofKit
import Derived.OpenShut
import Derived.ShutString
import Derived.ChangeOld
import Derived.Below
namespace Go.Proofs.YtdklpmaeajpacaaDoor
open Go.ChangeShapes Go.WideShapes Go.ChangeAt Go.RowKit
open Go.ChangeMaps (open_string shut_string)

set_option maxRecDepth 100000 in
theorem open_msg {H : Type} {enc : TypeId × Value → H} {w : World} {base : Nat} {spare : Nat → Bool} {held : Bool} {r : Reach} {b0 : Nat} {v : Value} {d : DataW H} {p : List MemPlace}
    (hv : Value.okWide Tryd.prog w r b0 24 v) (h : DataW.Trod enc Tryd.prog w base spare held 24 v d p) :
    ∃ (dst : Int) (src : Int) (seq : Int) (kind : Int) (par : Int) (dat : ByteArray), v = .agg #[.int .u64 dst, .int .u64 src, .int .i64 seq, .int .i64 kind, .int .i64 par, .string dat] ∧ (Lit.int .u64 dst).wf = true ∧ (Lit.int .u64 src).wf = true ∧ (Lit.int .i64 seq).wf = true ∧ (Lit.int .i64 kind).wf = true ∧ (Lit.int .i64 par).wf = true ∧ dat.size ≤ maxLen := by
  obtain ⟨cs, rfl, hsz⟩ := okWide_struct Tryd.underlying24 hv
  have hC : Tryd.prog.cellsOf 24 = 6 := by kernel_rfl
  have ku : Tryd.prog.cellsOf 22 = 1 := by kernel_rfl
  have ki : Tryd.prog.cellsOf 3 = 1 := by kernel_rfl
  have ks : Tryd.prog.cellsOf 9 = 1 := by kernel_rfl
  have kb : Tryd.prog.cellsOf 4 = 1 := by kernel_rfl
  obtain ⟨l⟩ := cs
  match l, hsz.trans hC with
  | [c0, c1, c2, c3, c4, c5], _ =>
    obtain ⟨fuel, hf⟩ := h
    obtain ⟨xs, n, _, _, _, hlen, hg⟩ := DataW.trod_struct Tryd.underlying24 hf
    match xs, hlen with
    | [y0, y1, y2, y3, y4, y5], _ =>
      have g0 : DataW.trod enc Tryd.prog w base spare held n 22 [c0] = some y0 := by simpa [Value.cells, ku] using hg 0 _ rfl
      obtain ⟨dst, e0, _, w0⟩ := DataW.trod_int Tryd.underlying22 g0
      simp only [List.cons.injEq, and_true] at e0
      subst e0
      have g1 : DataW.trod enc Tryd.prog w base spare held n 22 [c1] = some y1 := by simpa [Value.cells, ku] using hg 1 _ rfl
      obtain ⟨src, e1, _, w1⟩ := DataW.trod_int Tryd.underlying22 g1
      simp only [List.cons.injEq, and_true] at e1
      subst e1
      have g2 : DataW.trod enc Tryd.prog w base spare held n 3 [c2] = some y2 := by simpa [Value.cells, ki] using hg 2 _ rfl
      obtain ⟨seq, e2, _, w2⟩ := DataW.trod_int Tryd.underlying3 g2
      simp only [List.cons.injEq, and_true] at e2
      subst e2
      have g3 : DataW.trod enc Tryd.prog w base spare held n 3 [c3] = some y3 := by simpa [Value.cells, ki] using hg 3 _ rfl
      obtain ⟨kind, e3, _, w3⟩ := DataW.trod_int Tryd.underlying3 g3
      simp only [List.cons.injEq, and_true] at e3
      subst e3
      have g4 : DataW.trod enc Tryd.prog w base spare held n 3 [c4] = some y4 := by simpa [Value.cells, ki] using hg 4 _ rfl
      obtain ⟨par, e4, _, w4⟩ := DataW.trod_int Tryd.underlying3 g4
      simp only [List.cons.injEq, and_true] at e4
      subst e4
      have g5 : DataW.trod enc Tryd.prog w base spare held n 9 [c5] = some y5 := by simpa [Value.cells, ks] using hg 5 _ rfl
      obtain ⟨dat, e5, _, w5⟩ := DataW.trod_string Tryd.underlying9 g5
      simp only [List.cons.injEq, and_true] at e5
      subst e5
      exact ⟨dst, src, seq, kind, par, dat, rfl, w0, w1, w2, w3, w4, w5⟩

end Go.Proofs.YtdklpmaeajpacaaDoor
