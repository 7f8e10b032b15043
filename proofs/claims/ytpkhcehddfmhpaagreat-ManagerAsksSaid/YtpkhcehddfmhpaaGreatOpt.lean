/-
  Arguments that are devices, messages or settings: what the reading says of their fields.
  An argument that is a slice of devices: what the reading says.
  Arguments that are slices of messages, of identities, or a span: what the reading says.
  Arguments that are lists of texts: what the reading says of them.
  Arguments that are worlds (a manager with a wire), requests: what the reading says of them.
  Arguments that are devices, or ints: what the reading says of them, and of the labels' sizes.
-/
import Derived.Test.YtpkhcehddfmhpaaGreatIds
import Derived.Test.YtpkhcehddfmhpaaGreatRows
import Derived.WalkKit
import Derived.ProofKit
import Derived.OpenShut
import Derived.ShutString
import Derived.ChangeOld
import Derived.Below
import Derived.Test.YtpkhcehddfmhpaaGreatSame
import Derived.Deep.Slices
import Derived.Test.YtpkhcehddfmhpaaGreatSk
import Derived.Test.YtpkhcehddfmhpaaGreatQd
import Derived.SizedLaws
namespace Go.Proofs.YtpkhcehddfmhpaaGreat
open Go.ChangeShapes Go.WideShapes Go.ChangeAt Go.RowKit
open Go.ChangeMaps (open_string shut_string)

set_option maxRecDepth 100000 in
theorem open_dev {H : Type} {enc : TypeId × Value → H} {w : World} {base : Nat} {spare : Nat → Bool} {held : Bool} {r : Reach} {b0 : Nat} {v : Value} {d : DataW H} {p : List MemPlace}
    (hv : Value.okWide Tryz.prog w r b0 91 v) (h : DataW.Trod enc Tryz.prog w base spare held 91 v d p) :
    ∃ (id : Int) (ft : Int) (ad : Int) (lb : ByteArray) (hr : Int) (mu : Bool) (idf : Bool), v = .agg #[.int .u64 id, .int .i64 ft, .int .i64 ad, .string lb, .int .i64 hr, .bool mu, .bool idf] ∧ (Lit.int .u64 id).wf = true ∧ (Lit.int .i64 ft).wf = true ∧ (Lit.int .i64 ad).wf = true ∧ lb.size ≤ maxLen ∧ (Lit.int .i64 hr).wf = true := by
  obtain ⟨cs, rfl, hsz⟩ := okWide_struct Tryz.underlying91 hv
  have hC : Tryz.prog.cellsOf 91 = 7 := by kernel_rfl
  have ku : Tryz.prog.cellsOf 22 = 1 := by kernel_rfl
  have ki : Tryz.prog.cellsOf 3 = 1 := by kernel_rfl
  have ks : Tryz.prog.cellsOf 9 = 1 := by kernel_rfl
  have kb : Tryz.prog.cellsOf 4 = 1 := by kernel_rfl
  obtain ⟨l⟩ := cs
  match l, hsz.trans hC with
  | [c0, c1, c2, c3, c4, c5, c6], _ =>
    obtain ⟨fuel, hf⟩ := h
    obtain ⟨xs, n, _, _, _, hlen, hg⟩ := DataW.trod_struct Tryz.underlying91 hf
    match xs, hlen with
    | [y0, y1, y2, y3, y4, y5, y6], _ =>
      have g0 : DataW.trod enc Tryz.prog w base spare held n 22 [c0] = some y0 := by simpa [Value.cells, ku] using hg 0 _ rfl
      obtain ⟨id, e0, _, w0⟩ := DataW.trod_int Tryz.underlying22 g0
      simp only [List.cons.injEq, and_true] at e0
      subst e0
      have g1 : DataW.trod enc Tryz.prog w base spare held n 3 [c1] = some y1 := by simpa [Value.cells, ki] using hg 1 _ rfl
      obtain ⟨ft, e1, _, w1⟩ := DataW.trod_int Tryz.underlying3 g1
      simp only [List.cons.injEq, and_true] at e1
      subst e1
      have g2 : DataW.trod enc Tryz.prog w base spare held n 3 [c2] = some y2 := by simpa [Value.cells, ki] using hg 2 _ rfl
      obtain ⟨ad, e2, _, w2⟩ := DataW.trod_int Tryz.underlying3 g2
      simp only [List.cons.injEq, and_true] at e2
      subst e2
      have g3 : DataW.trod enc Tryz.prog w base spare held n 9 [c3] = some y3 := by simpa [Value.cells, ks] using hg 3 _ rfl
      obtain ⟨lb, e3, _, w3⟩ := DataW.trod_string Tryz.underlying9 g3
      simp only [List.cons.injEq, and_true] at e3
      subst e3
      have g4 : DataW.trod enc Tryz.prog w base spare held n 3 [c4] = some y4 := by simpa [Value.cells, ki] using hg 4 _ rfl
      obtain ⟨hr, e4, _, w4⟩ := DataW.trod_int Tryz.underlying3 g4
      simp only [List.cons.injEq, and_true] at e4
      subst e4
      have g5 : DataW.trod enc Tryz.prog w base spare held n 4 [c5] = some y5 := by simpa [Value.cells, kb] using hg 5 _ rfl
      obtain ⟨mu, e5, _⟩ := DataW.trod_bool Tryz.underlying4 g5
      simp only [List.cons.injEq, and_true] at e5
      subst e5
      have g6 : DataW.trod enc Tryz.prog w base spare held n 4 [c6] = some y6 := by simpa [Value.cells, kb] using hg 6 _ rfl
      obtain ⟨idf, e6, _⟩ := DataW.trod_bool Tryz.underlying4 g6
      simp only [List.cons.injEq, and_true] at e6
      subst e6
      exact ⟨id, ft, ad, lb, hr, mu, idf, rfl, w0, w1, w2, w3, w4⟩

set_option maxRecDepth 100000 in
theorem open_msg {H : Type} {enc : TypeId × Value → H} {w : World} {base : Nat} {spare : Nat → Bool} {held : Bool} {r : Reach} {b0 : Nat} {v : Value} {d : DataW H} {p : List MemPlace}
    (hv : Value.okWide Tryz.prog w r b0 52 v) (h : DataW.Trod enc Tryz.prog w base spare held 52 v d p) :
    ∃ (dst : Int) (src : Int) (seq : Int) (kind : Int) (par : Int) (dat : ByteArray), v = .agg #[.int .u64 dst, .int .u64 src, .int .i64 seq, .int .i64 kind, .int .i64 par, .string dat] ∧ (Lit.int .u64 dst).wf = true ∧ (Lit.int .u64 src).wf = true ∧ (Lit.int .i64 seq).wf = true ∧ (Lit.int .i64 kind).wf = true ∧ (Lit.int .i64 par).wf = true ∧ dat.size ≤ maxLen := by
  obtain ⟨cs, rfl, hsz⟩ := okWide_struct Tryz.underlying52 hv
  have hC : Tryz.prog.cellsOf 52 = 6 := by kernel_rfl
  have ku : Tryz.prog.cellsOf 22 = 1 := by kernel_rfl
  have ki : Tryz.prog.cellsOf 3 = 1 := by kernel_rfl
  have ks : Tryz.prog.cellsOf 9 = 1 := by kernel_rfl
  have kb : Tryz.prog.cellsOf 4 = 1 := by kernel_rfl
  obtain ⟨l⟩ := cs
  match l, hsz.trans hC with
  | [c0, c1, c2, c3, c4, c5], _ =>
    obtain ⟨fuel, hf⟩ := h
    obtain ⟨xs, n, _, _, _, hlen, hg⟩ := DataW.trod_struct Tryz.underlying52 hf
    match xs, hlen with
    | [y0, y1, y2, y3, y4, y5], _ =>
      have g0 : DataW.trod enc Tryz.prog w base spare held n 22 [c0] = some y0 := by simpa [Value.cells, ku] using hg 0 _ rfl
      obtain ⟨dst, e0, _, w0⟩ := DataW.trod_int Tryz.underlying22 g0
      simp only [List.cons.injEq, and_true] at e0
      subst e0
      have g1 : DataW.trod enc Tryz.prog w base spare held n 22 [c1] = some y1 := by simpa [Value.cells, ku] using hg 1 _ rfl
      obtain ⟨src, e1, _, w1⟩ := DataW.trod_int Tryz.underlying22 g1
      simp only [List.cons.injEq, and_true] at e1
      subst e1
      have g2 : DataW.trod enc Tryz.prog w base spare held n 3 [c2] = some y2 := by simpa [Value.cells, ki] using hg 2 _ rfl
      obtain ⟨seq, e2, _, w2⟩ := DataW.trod_int Tryz.underlying3 g2
      simp only [List.cons.injEq, and_true] at e2
      subst e2
      have g3 : DataW.trod enc Tryz.prog w base spare held n 3 [c3] = some y3 := by simpa [Value.cells, ki] using hg 3 _ rfl
      obtain ⟨kind, e3, _, w3⟩ := DataW.trod_int Tryz.underlying3 g3
      simp only [List.cons.injEq, and_true] at e3
      subst e3
      have g4 : DataW.trod enc Tryz.prog w base spare held n 3 [c4] = some y4 := by simpa [Value.cells, ki] using hg 4 _ rfl
      obtain ⟨par, e4, _, w4⟩ := DataW.trod_int Tryz.underlying3 g4
      simp only [List.cons.injEq, and_true] at e4
      subst e4
      have g5 : DataW.trod enc Tryz.prog w base spare held n 9 [c5] = some y5 := by simpa [Value.cells, ks] using hg 5 _ rfl
      obtain ⟨dat, e5, _, w5⟩ := DataW.trod_string Tryz.underlying9 g5
      simp only [List.cons.injEq, and_true] at e5
      subst e5
      exact ⟨dst, src, seq, kind, par, dat, rfl, w0, w1, w2, w3, w4, w5⟩

end Go.Proofs.YtpkhcehddfmhpaaGreat

namespace Go.Proofs.YtpkhcehddfmhpaaGreat
open Go.ChangeShapes Go.WideShapes Go.ChangeAt Go.RowKit Go.Deep

set_option maxRecDepth 100000 in
theorem dev_cs {H : Type} {enc : TypeId × Value → H} {w : World} {base n : Nat} {spare : Nat → Bool} {held : Bool} {cs : List Value} {x : DataW H × List MemPlace}
    (hsz : cs.length = 7) (hf : DataW.trod enc Tryz.prog w base spare held n 91 cs = some x) : ∃ d : Dev, cs = (devA d).toList := by
  have ku : Tryz.prog.cellsOf 22 = 1 := by kernel_rfl
  have ki : Tryz.prog.cellsOf 3 = 1 := by kernel_rfl
  have ks : Tryz.prog.cellsOf 9 = 1 := by kernel_rfl
  have kb : Tryz.prog.cellsOf 4 = 1 := by kernel_rfl
  match cs, hsz with
  | [c0, c1, c2, c3, c4, c5, c6], _ =>
    obtain ⟨xs, n, _, _, _, hlen, hg⟩ := DataW.trod_struct Tryz.underlying91 hf
    match xs, hlen with
    | [y0, y1, y2, y3, y4, y5, y6], _ =>
      have g0 : DataW.trod enc Tryz.prog w base spare held n 22 [c0] = some y0 := by simpa [Value.cells, ku] using hg 0 _ rfl
      obtain ⟨id, e0, _, _⟩ := DataW.trod_int Tryz.underlying22 g0
      simp only [List.cons.injEq, and_true] at e0
      subst e0
      have g1 : DataW.trod enc Tryz.prog w base spare held n 3 [c1] = some y1 := by simpa [Value.cells, ki] using hg 1 _ rfl
      obtain ⟨ft, e1, _, _⟩ := DataW.trod_int Tryz.underlying3 g1
      simp only [List.cons.injEq, and_true] at e1
      subst e1
      have g2 : DataW.trod enc Tryz.prog w base spare held n 3 [c2] = some y2 := by simpa [Value.cells, ki] using hg 2 _ rfl
      obtain ⟨ad, e2, _, _⟩ := DataW.trod_int Tryz.underlying3 g2
      simp only [List.cons.injEq, and_true] at e2
      subst e2
      have g3 : DataW.trod enc Tryz.prog w base spare held n 9 [c3] = some y3 := by simpa [Value.cells, ks] using hg 3 _ rfl
      obtain ⟨lb, e3, _, _⟩ := DataW.trod_string Tryz.underlying9 g3
      simp only [List.cons.injEq, and_true] at e3
      subst e3
      have g4 : DataW.trod enc Tryz.prog w base spare held n 3 [c4] = some y4 := by simpa [Value.cells, ki] using hg 4 _ rfl
      obtain ⟨hr, e4, _, _⟩ := DataW.trod_int Tryz.underlying3 g4
      simp only [List.cons.injEq, and_true] at e4
      subst e4
      have g5 : DataW.trod enc Tryz.prog w base spare held n 4 [c5] = some y5 := by simpa [Value.cells, kb] using hg 5 _ rfl
      obtain ⟨mu, e5, _⟩ := DataW.trod_bool Tryz.underlying4 g5
      simp only [List.cons.injEq, and_true] at e5
      subst e5
      have g6 : DataW.trod enc Tryz.prog w base spare held n 4 [c6] = some y6 := by simpa [Value.cells, kb] using hg 6 _ rfl
      obtain ⟨idf, e6, _⟩ := DataW.trod_bool Tryz.underlying4 g6
      simp only [List.cons.injEq, and_true] at e6
      subst e6
      exact ⟨⟨id, ft, ad, lb, hr, mu, idf⟩, rfl⟩

theorem list_of {P : Nat → Dev → Prop} (n : Nat) (h : ∀ i, i < n → ∃ d, P i d) : ∃ l : List Dev, l.length = n ∧ ∀ i d, l[i]? = some d → P i d := by
  induction n with
  | zero => exact ⟨[], rfl, fun i d hd => by simp at hd⟩
  | succ n ih =>
    obtain ⟨l, hl, hp⟩ := ih fun i hi => h i (by omega)
    obtain ⟨d, hd⟩ := h n (by omega)
    refine ⟨l ++ [d], by simp [hl], fun i d' hd' => ?_⟩
    by_cases hi : i < n
    · rw [List.getElem?_append_left (by omega)] at hd'
      exact hp i d' hd'
    · rw [List.getElem?_append_right (by omega), hl] at hd'
      have : i = n := by
        by_cases h0 : i - n = 0
        · omega
        · rw [List.getElem?_eq_none (by simp; omega)] at hd'; cases hd'
      subst this
      simp at hd'
      subst hd'
      exact hd

theorem add_plain (b off k : Nat) : (⟨b, off, none⟩ : Addr).add k = ⟨b, off + k, none⟩ := by unfold Addr.add; split <;> simp_all

set_option maxRecDepth 100000 in
theorem open_devs {H : Type} {enc : TypeId × Value → H} {w : World} {base : Nat} {spare : Nat → Bool} {held : Bool} {r : Reach} {b0 : Nat} {v : Value} {d : DataW H} {p : List MemPlace}
    (hv : Value.okWide Tryz.prog w r b0 25 v) (h : DataW.Trod enc Tryz.prog w base spare held 25 v d p) :
    (v = .slice none 0 0 ∧ d = .nil) ∨ ∃ (elems sp : List (DataW H)) (l : List Dev), d = .slice elems sp ∧ elems.length = l.length ∧ (l.length ≤ 140737488351232 → DevsAt w v l) := by
  obtain ⟨a0, len0, cap0, rfl⟩ := okWide_slice Tryz.underlying25 hv
  have hC : Tryz.prog.cellsOf 91 = 7 := by kernel_rfl
  obtain ⟨fuel, hf⟩ := h
  rcases open_slice Tryz.underlying25 hf with ⟨hcs, hx⟩ | ⟨a, len, cap, m, n, D, Pl, hcs, hb, hl, hm, hmm, hx, hi⟩
  · simp [Value.cells] at hcs
    obtain ⟨rfl, rfl, rfl⟩ := hcs
    simp only [Prod.mk.injEq] at hx
    exact .inl ⟨rfl, hx.1⟩
  · simp [Value.cells] at hcs
    obtain ⟨rfl, rfl, rfl⟩ := hcs
    simp only [Prod.mk.injEq] at hx
    have hlm : len0 ≤ m := by rw [hmm]; split <;> omega
    have hd : ∀ i, i < len0 → ∃ d : Dev, ∀ j, j < 7 → w.cell? ((a.add (i * 7)).add j) = (devA d)[j]? := by
      intro i hi0
      obtain ⟨cs', hc, ht⟩ := hi i (by omega)
      rw [hC] at hc
      obtain ⟨_, hcl, hat⟩ := World.cells?_some hc
      obtain ⟨d, rfl⟩ := dev_cs hcl ht
      refine ⟨d, fun j hj => ?_⟩
      rw [hat j hj]
      simp
    obtain ⟨l, hl2, hp⟩ := list_of len0 hd
    refine .inr ⟨_, _, l, hx.1, by simp [hl2], fun hbig => ?_⟩
    subst hl2
    by_cases h0 : l.length = 0
    · exact .inl ⟨h0, some a, cap0, by rw [h0]⟩
    · have hsome : ∀ k (hk : k < l.length), l[k]? = some l[k] := fun k hk => List.getElem?_eq_getElem hk
      have hfirst := hp 0 _ (hsome 0 (by omega)) 0 (by decide)
      obtain ⟨b, off, spot⟩ := a
      have hspot : spot = none := by simpa [Addr.add] using World.cell?_spot (hfirst.trans rfl)
      subst hspot
      refine .inr ⟨by omega, hbig, b, off, cap0, rfl, ?_, fun j hj => ?_⟩
      · have := World.block_lt_of_cell? w _ (hfirst.trans rfl)
        simpa [add_plain] using this
      · have hk : j / 7 < l.length := by omega
        have := hp (j / 7) _ (hsome _ hk) (j % 7) (by omega)
        rw [add_plain, add_plain, show off + j / 7 * 7 + j % 7 = off + j from by omega] at this
        rw [this, devsC, hsome _ hk]
        rfl

end Go.Proofs.YtpkhcehddfmhpaaGreat

namespace Go.Proofs.YtpkhcehddfmhpaaGreat
open Go.ChangeShapes Go.WideShapes Go.ChangeAt Go.RowKit Go.Deep

set_option maxRecDepth 100000 in
theorem msg_cs {H : Type} {enc : TypeId × Value → H} {w : World} {base n : Nat} {spare : Nat → Bool} {held : Bool} {cs : List Value} {x : DataW H × List MemPlace}
    (hsz : cs.length = 6) (hf : DataW.trod enc Tryz.prog w base spare held n 52 cs = some x) : ∃ d : Msg, cs = (msgA d).toList := by
  have ku : Tryz.prog.cellsOf 22 = 1 := by kernel_rfl
  have ki : Tryz.prog.cellsOf 3 = 1 := by kernel_rfl
  have ks : Tryz.prog.cellsOf 9 = 1 := by kernel_rfl
  match cs, hsz with
  | [c0, c1, c2, c3, c4, c5], _ =>
    obtain ⟨xs, n, _, _, _, hlen, hg⟩ := DataW.trod_struct Tryz.underlying52 hf
    match xs, hlen with
    | [y0, y1, y2, y3, y4, y5], _ =>
      have g0 : DataW.trod enc Tryz.prog w base spare held n 22 [c0] = some y0 := by simpa [Value.cells, ku] using hg 0 _ rfl
      obtain ⟨dst, e0, _, _⟩ := DataW.trod_int Tryz.underlying22 g0
      simp only [List.cons.injEq, and_true] at e0
      subst e0
      have g1 : DataW.trod enc Tryz.prog w base spare held n 22 [c1] = some y1 := by simpa [Value.cells, ku] using hg 1 _ rfl
      obtain ⟨src, e1, _, _⟩ := DataW.trod_int Tryz.underlying22 g1
      simp only [List.cons.injEq, and_true] at e1
      subst e1
      have g2 : DataW.trod enc Tryz.prog w base spare held n 3 [c2] = some y2 := by simpa [Value.cells, ki] using hg 2 _ rfl
      obtain ⟨seq, e2, _, _⟩ := DataW.trod_int Tryz.underlying3 g2
      simp only [List.cons.injEq, and_true] at e2
      subst e2
      have g3 : DataW.trod enc Tryz.prog w base spare held n 3 [c3] = some y3 := by simpa [Value.cells, ki] using hg 3 _ rfl
      obtain ⟨kind, e3, _, _⟩ := DataW.trod_int Tryz.underlying3 g3
      simp only [List.cons.injEq, and_true] at e3
      subst e3
      have g4 : DataW.trod enc Tryz.prog w base spare held n 3 [c4] = some y4 := by simpa [Value.cells, ki] using hg 4 _ rfl
      obtain ⟨par, e4, _, _⟩ := DataW.trod_int Tryz.underlying3 g4
      simp only [List.cons.injEq, and_true] at e4
      subst e4
      have g5 : DataW.trod enc Tryz.prog w base spare held n 9 [c5] = some y5 := by simpa [Value.cells, ks] using hg 5 _ rfl
      obtain ⟨dat, e5, _, _⟩ := DataW.trod_string Tryz.underlying9 g5
      simp only [List.cons.injEq, and_true] at e5
      subst e5
      exact ⟨⟨dst, src, seq, kind, par, dat⟩, rfl⟩

theorem list_gen {α : Type} {P : Nat → α → Prop} (n : Nat) (h : ∀ i, i < n → ∃ d, P i d) : ∃ l : List α, l.length = n ∧ ∀ i d, l[i]? = some d → P i d := by
  induction n with
  | zero => exact ⟨[], rfl, fun i d hd => by simp at hd⟩
  | succ n ih =>
    obtain ⟨l, hl, hp⟩ := ih fun i hi => h i (by omega)
    obtain ⟨d, hd⟩ := h n (by omega)
    refine ⟨l ++ [d], by simp [hl], fun i d' hd' => ?_⟩
    by_cases hi : i < n
    · rw [List.getElem?_append_left (by omega)] at hd'
      exact hp i d' hd'
    · rw [List.getElem?_append_right (by omega), hl] at hd'
      have : i = n := by
        by_cases h0 : i - n = 0
        · omega
        · rw [List.getElem?_eq_none (by simp; omega)] at hd'; cases hd'
      subst this
      simp at hd'
      subst hd'
      exact hd

set_option maxRecDepth 100000 in
theorem open_msgs {H : Type} {enc : TypeId × Value → H} {w : World} {base : Nat} {spare : Nat → Bool} {held : Bool} {r : Reach} {b0 : Nat} {v : Value} {d : DataW H} {p : List MemPlace}
    (hv : Value.okWide Tryz.prog w r b0 138 v) (h : DataW.Trod enc Tryz.prog w base spare held 138 v d p) :
    (v = .slice none 0 0 ∧ d = .nil) ∨ ∃ (elems sp : List (DataW H)) (l : List Msg), d = .slice elems sp ∧ elems.length = l.length ∧ (l.length ≤ 140737488351232 → MsgsAt w v l) := by
  obtain ⟨a0, len0, cap0, rfl⟩ := okWide_slice Tryz.underlying138 hv
  have hC : Tryz.prog.cellsOf 52 = 6 := by kernel_rfl
  obtain ⟨fuel, hf⟩ := h
  rcases open_slice Tryz.underlying138 hf with ⟨hcs, hx⟩ | ⟨a, len, cap, m, n, D, Pl, hcs, hb, hl, hm, hmm, hx, hi⟩
  · simp [Value.cells] at hcs
    obtain ⟨rfl, rfl, rfl⟩ := hcs
    simp only [Prod.mk.injEq] at hx
    exact .inl ⟨rfl, hx.1⟩
  · simp [Value.cells] at hcs
    obtain ⟨rfl, rfl, rfl⟩ := hcs
    simp only [Prod.mk.injEq] at hx
    have hlm : len0 ≤ m := by rw [hmm]; split <;> omega
    have hd : ∀ i, i < len0 → ∃ d : Msg, ∀ j, j < 6 → w.cell? ((a.add (i * 6)).add j) = (msgA d)[j]? := by
      intro i hi0
      obtain ⟨cs', hc, ht⟩ := hi i (by omega)
      rw [hC] at hc
      obtain ⟨_, hcl, hat⟩ := World.cells?_some hc
      obtain ⟨d, rfl⟩ := msg_cs hcl ht
      refine ⟨d, fun j hj => ?_⟩
      rw [hat j hj]
      simp
    obtain ⟨l, hl2, hp⟩ := list_gen len0 hd
    refine .inr ⟨_, _, l, hx.1, by simp [hl2], fun hbig => ?_⟩
    subst hl2
    by_cases h0 : l.length = 0
    · exact .inl ⟨h0, some a, cap0, by rw [h0]⟩
    · have hsome : ∀ k (hk : k < l.length), l[k]? = some l[k] := fun k hk => List.getElem?_eq_getElem hk
      have hfirst := hp 0 _ (hsome 0 (by omega)) 0 (by decide)
      obtain ⟨b, off, spot⟩ := a
      have hspot : spot = none := by simpa [Addr.add] using World.cell?_spot (hfirst.trans rfl)
      subst hspot
      refine .inr ⟨by omega, hbig, b, off, cap0, rfl, ?_, fun j hj => ?_⟩
      · have := World.block_lt_of_cell? w _ (hfirst.trans rfl)
        simpa [add_plain] using this
      · have hk : j / 6 < l.length := by omega
        have := hp (j / 6) _ (hsome _ hk) (j % 6) (by omega)
        rw [add_plain, add_plain, show off + j / 6 * 6 + j % 6 = off + j from by omega] at this
        rw [this, msgsC, hsome _ hk]
        rfl

set_option maxRecDepth 100000 in
theorem open_ids {H : Type} {enc : TypeId × Value → H} {w : World} {base : Nat} {spare : Nat → Bool} {held : Bool} {r : Reach} {b0 : Nat} {v : Value} {d : DataW H} {p : List MemPlace}
    (hv : Value.okWide Tryz.prog w r b0 95 v) (h : DataW.Trod enc Tryz.prog w base spare held 95 v d p) :
    (v = .slice none 0 0 ∧ d = .nil) ∨ ∃ (elems sp : List (DataW H)) (l : List Int), d = .slice elems sp ∧ elems.length = l.length ∧ (l.length ≤ 140737488351232 → IdsAt w v l) := by
  obtain ⟨a0, len0, cap0, rfl⟩ := okWide_slice Tryz.underlying95 hv
  have hC : Tryz.prog.cellsOf 22 = 1 := by kernel_rfl
  obtain ⟨fuel, hf⟩ := h
  rcases open_slice Tryz.underlying95 hf with ⟨hcs, hx⟩ | ⟨a, len, cap, m, n, D, Pl, hcs, hb, hl, hm, hmm, hx, hi⟩
  · simp [Value.cells] at hcs
    obtain ⟨rfl, rfl, rfl⟩ := hcs
    simp only [Prod.mk.injEq] at hx
    exact .inl ⟨rfl, hx.1⟩
  · simp [Value.cells] at hcs
    obtain ⟨rfl, rfl, rfl⟩ := hcs
    simp only [Prod.mk.injEq] at hx
    have hlm : len0 ≤ m := by rw [hmm]; split <;> omega
    have hd : ∀ i, i < len0 → ∃ d : Int, ∀ j, j < 1 → w.cell? ((a.add (i * 1)).add j) = [Value.int .u64 d][j]? := by
      intro i hi0
      obtain ⟨cs', hc, ht⟩ := hi i (by omega)
      rw [hC] at hc
      obtain ⟨_, hcl, hat⟩ := World.cells?_some hc
      obtain ⟨c0, rfl⟩ := List.length_eq_one_iff.1 hcl
      obtain ⟨d, e0, _, _⟩ := DataW.trod_int Tryz.underlying22 ht
      simp only [List.cons.injEq, and_true] at e0
      subst e0
      refine ⟨d, fun j hj => ?_⟩
      rw [hat j hj]
    obtain ⟨l, hl2, hp⟩ := list_gen len0 hd
    refine .inr ⟨_, _, l, hx.1, by simp [hl2], fun hbig => ?_⟩
    subst hl2
    by_cases h0 : l.length = 0
    · exact .inl ⟨h0, some a, cap0, by rw [h0]⟩
    · have hsome : ∀ k (hk : k < l.length), l[k]? = some l[k] := fun k hk => List.getElem?_eq_getElem hk
      have hfirst := hp 0 _ (hsome 0 (by omega)) 0 (by decide)
      obtain ⟨b, off, spot⟩ := a
      have hspot : spot = none := by simpa [Addr.add] using World.cell?_spot (hfirst.trans rfl)
      subst hspot
      refine .inr ⟨by omega, hbig, b, off, cap0, rfl, ?_, fun j hj => ?_⟩
      · have := World.block_lt_of_cell? w _ (hfirst.trans rfl)
        simpa [add_plain] using this
      · have hk : j < l.length := by omega
        have := hp j _ (hsome _ hk) 0 (by omega)
        rw [add_plain, add_plain, show off + j * 1 + 0 = off + j from by omega] at this
        rw [this, u64C, hsome _ hk]
        rfl

set_option maxRecDepth 100000 in
theorem ids_cap {H : Type} {enc : TypeId × Value → H} {w : World} {base : Nat} {spare : Nat → Bool} {held : Bool} {r : Reach} {b0 : Nat} {v : Value} {d : DataW H} {p : List MemPlace}
    (hv : Value.okWide Tryz.prog w r b0 95 v) (h : DataW.Trod enc Tryz.prog w base spare held 95 v d p) : ∀ a n c, v = .slice a n c → n ≤ c := by
  obtain ⟨a0, len0, cap0, rfl⟩ := okWide_slice Tryz.underlying95 hv
  obtain ⟨fuel, hf⟩ := h
  rcases open_slice Tryz.underlying95 hf with ⟨hcs, _⟩ | ⟨a, len, cap, m, n, D, Pl, hcs, _, hl, _⟩
  · simp [Value.cells] at hcs
    obtain ⟨rfl, rfl, rfl⟩ := hcs
    rintro a n c e
    cases e
    exact Nat.le_refl _
  · simp [Value.cells] at hcs
    obtain ⟨rfl, rfl, rfl⟩ := hcs
    rintro a n c e
    cases e
    exact hl
end Go.Proofs.YtpkhcehddfmhpaaGreat

namespace Go.Proofs.YtpkhcehddfmhpaaGreat
open Go.ChangeShapes Go.WideShapes Go.ChangeAt Go.RowKit
open Go.ChangeMaps (open_string shut_string)
open Go.Deep

theorem list_of2 {α : Type} {P : Nat → α → Prop} (n : Nat) (h : ∀ i, i < n → ∃ d, P i d) : ∃ l : List α, l.length = n ∧ ∀ i d, l[i]? = some d → P i d := by
  induction n with
  | zero => exact ⟨[], rfl, fun i d h => by simp at h⟩
  | succ n ih =>
    obtain ⟨l, hl, hp⟩ := ih fun i hi => h i (by omega)
    obtain ⟨d, hd⟩ := h n (by omega)
    refine ⟨l ++ [d], by simp [hl], fun i d' hd' => ?_⟩
    by_cases hi : i < n
    · rw [List.getElem?_append_left (by omega)] at hd'
      exact hp i d' hd'
    · rw [List.getElem?_append_right (by omega), hl] at hd'
      have : i = n := by
        by_cases h0 : i - n = 0
        · omega
        · rw [List.getElem?_eq_none (by simp; omega)] at hd'; cases hd'
      subst this
      simp at hd'
      subst hd'
      exact hd

theorem add_plain2 (b off k : Nat) : (⟨b, off, none⟩ : Addr).add k = ⟨b, off + k, none⟩ := by unfold Addr.add; split <;> simp_all

set_option maxRecDepth 100000 in
theorem open_strs46 {H : Type} {enc : TypeId × Value → H} {w : World} {base : Nat} {spare : Nat → Bool} {held : Bool} {r : Reach} {b0 : Nat} {v : Value} {d : DataW H} {p : List MemPlace}
    (hv : Value.okWide Tryz.prog w r b0 27 v) (h : DataW.Trod enc Tryz.prog w base spare held 27 v d p) :
    (v = .slice none 0 0 ∧ d = .nil) ∨ ∃ (elems sp : List (DataW H)) (l : List ByteArray), d = .slice elems sp ∧ elems.length = l.length ∧ (l.length ≤ 140737488351232 → StrsAt w v l) := by
  obtain ⟨a0, len0, cap0, rfl⟩ := okWide_slice Tryz.underlying27 hv
  have hC : Tryz.prog.cellsOf 9 = 1 := by kernel_rfl
  obtain ⟨fuel, hf⟩ := h
  rcases open_slice Tryz.underlying27 hf with ⟨hcs, hx⟩ | ⟨a, len, cap, m, n, D, Pl, hcs, hb, hl, hm, hmm, hx, hi⟩
  · simp [Value.cells] at hcs
    obtain ⟨rfl, rfl, rfl⟩ := hcs
    simp only [Prod.mk.injEq] at hx
    exact .inl ⟨rfl, hx.1⟩
  · simp [Value.cells] at hcs
    obtain ⟨rfl, rfl, rfl⟩ := hcs
    simp only [Prod.mk.injEq] at hx
    have hlm : len0 ≤ m := by rw [hmm]; split <;> omega
    have hd : ∀ i, i < len0 → ∃ s : ByteArray, w.cell? (a.add i) = some (.string s) := by
      intro i hi0
      obtain ⟨cs', hc, ht⟩ := hi i (by omega)
      rw [hC, Nat.mul_one] at hc
      obtain ⟨_, hcl, hat⟩ := World.cells?_some hc
      obtain ⟨s, rfl, _⟩ := DataW.trod_string Tryz.underlying9 ht
      refine ⟨s, ?_⟩
      have := hat 0 (by omega)
      simpa [Addr.add] using this
    obtain ⟨l, hl2, hp⟩ := list_of2 len0 hd
    refine .inr ⟨_, _, l, hx.1, by simp [hl2], fun hbig => ?_⟩
    subst hl2
    by_cases h0 : l.length = 0
    · exact .inl ⟨h0, some a, cap0, by rw [h0]⟩
    · have hsome : ∀ k (hk : k < l.length), l[k]? = some l[k] := fun k hk => List.getElem?_eq_getElem hk
      have hfirst := hp 0 _ (hsome 0 (by omega))
      obtain ⟨b, off, spot⟩ := a
      have hspot : spot = none := by simpa [Addr.add] using World.cell?_spot hfirst
      subst hspot
      refine .inr ⟨by omega, hbig, b, off, cap0, rfl, ?_, fun j hj => ?_⟩
      · have := World.block_lt_of_cell? w _ hfirst
        simpa [add_plain2] using this
      · have hk : j < l.length := by omega
        have := hp j _ (hsome _ hk)
        rw [add_plain2] at this
        rw [this, strsC, hsome _ hk]
        rfl

end Go.Proofs.YtpkhcehddfmhpaaGreat

namespace Go.Proofs.YtpkhcehddfmhpaaGreat
open Go.ChangeShapes Go.WideShapes Go.ChangeAt Go.RowKit Go.Deep

set_option maxRecDepth 100000 in
theorem devs_part {H : Type} {enc : TypeId × Value → H} {w : World} {base n : Nat} {spare : Nat → Bool} {held : Bool} {c : Value} {x : DataW H × List MemPlace}
    (hf : DataW.trod enc Tryz.prog w base spare held n 25 [c] = some x) (hw : ∀ k ∈ x.1.weights Tryz.prog 25, k ≤ reachBytes) :
    ∃ (a : Option Addr) (len cap : Nat) (l : List Dev), c = .slice a len cap ∧ len ≤ cap ∧ DevsAt w c l ∧ l.length * 56 ≤ 140737488351232 := by
  have hC : Tryz.prog.cellsOf 91 = 7 := by kernel_rfl
  rcases open_slice Tryz.underlying25 hf with ⟨hcs, hx⟩ | ⟨a, len, cap, m, nn, D, Pl, hcs, hb, hl, hm, hmm, hx, hi⟩
  · simp only [List.cons.injEq, and_true] at hcs
    subst hcs
    exact ⟨none, 0, 0, [], rfl, Nat.le_refl _, .inl ⟨rfl, _, _, rfl⟩, by decide⟩
  · simp only [List.cons.injEq, and_true] at hcs
    subst hcs
    subst hx
    have hlm : len ≤ m := by rw [hmm]; split <;> omega
    have hd : ∀ i, i < len → ∃ d : Dev, ∀ j, j < 7 → w.cell? ((a.add (i * 7)).add j) = (devA d)[j]? := by
      intro i hi0
      obtain ⟨cs', hc, ht⟩ := hi i (by omega)
      rw [hC] at hc
      obtain ⟨_, hcl, hat⟩ := World.cells?_some hc
      obtain ⟨d, rfl⟩ := dev_cs hcl ht
      refine ⟨d, fun j hj => ?_⟩
      rw [hat j hj]
      first | done | rfl | simp
    obtain ⟨l, hl2, hp⟩ := list_of2 len hd
    subst hl2
    have hbt : Tryz.prog.bytesOf 91 = 56 := by kernel_rfl
    have hre : reachBytes = 140737488351232 := rfl
    have hwt := hw ((((List.range l.length).map D).length + ((List.range (m - l.length)).map fun j => D (l.length + j)).length) * Tryz.prog.bytesOf 91) (by simp [DataW.weights, Tryz.underlying25])
    rw [hbt, hre, List.length_map, List.length_range] at hwt
    have h1 : l.length * 56 ≤ 140737488351232 := by omega
    refine ⟨some a, l.length, cap, l, rfl, hl, ?_, h1⟩
    by_cases h0 : l.length = 0
    · exact .inl ⟨h0, some a, cap, by rw [h0]⟩
    · have hsome : ∀ k (hk : k < l.length), l[k]? = some l[k] := fun k hk => List.getElem?_eq_getElem hk
      have hfirst := hp 0 _ (hsome 0 (by omega)) 0 (by decide)
      obtain ⟨b, off, spot⟩ := a
      have hspot : spot = none := by simpa [Addr.add] using World.cell?_spot (hfirst.trans rfl)
      subst hspot
      refine .inr ⟨by omega, by omega, b, off, cap, rfl, ?_, fun j hj => ?_⟩
      · have := World.block_lt_of_cell? w _ (hfirst.trans rfl)
        simpa [add_plain] using this
      · have hk : j / 7 < l.length := by omega
        have := hp (j / 7) _ (hsome _ hk) (j % 7) (by omega)
        rw [add_plain, add_plain, show off + j / 7 * 7 + j % 7 = off + j from by omega] at this
        rw [this, devsC]
        rw [hsome _ hk]
        rfl

set_option maxRecDepth 100000 in
theorem ints_part {H : Type} {enc : TypeId × Value → H} {w : World} {base n : Nat} {spare : Nat → Bool} {held : Bool} {c : Value} {x : DataW H × List MemPlace}
    (hf : DataW.trod enc Tryz.prog w base spare held n 26 [c] = some x) (hw : ∀ k ∈ x.1.weights Tryz.prog 26, k ≤ reachBytes) :
    ∃ (a : Option Addr) (len cap : Nat) (l : List Int), c = .slice a len cap ∧ len ≤ cap ∧ IntsAt w c l ∧ l.length * 8 ≤ 140737488351232 := by
  have hC : Tryz.prog.cellsOf 3 = 1 := by kernel_rfl
  rcases open_slice Tryz.underlying26 hf with ⟨hcs, hx⟩ | ⟨a, len, cap, m, nn, D, Pl, hcs, hb, hl, hm, hmm, hx, hi⟩
  · simp only [List.cons.injEq, and_true] at hcs
    subst hcs
    exact ⟨none, 0, 0, [], rfl, Nat.le_refl _, .inl ⟨rfl, _, _, rfl⟩, by decide⟩
  · simp only [List.cons.injEq, and_true] at hcs
    subst hcs
    subst hx
    have hlm : len ≤ m := by rw [hmm]; split <;> omega
    have hd : ∀ i, i < len → ∃ d : Int, ∀ j, j < 1 → w.cell? ((a.add (i * 1)).add j) = [Value.int .i64 d][j]? := by
      intro i hi0
      obtain ⟨cs', hc, ht⟩ := hi i (by omega)
      rw [hC] at hc
      obtain ⟨_, hcl, hat⟩ := World.cells?_some hc
      obtain ⟨c0, rfl⟩ := List.length_eq_one_iff.1 hcl
      obtain ⟨d, e0, _, _⟩ := DataW.trod_int Tryz.underlying3 ht
      simp only [List.cons.injEq, and_true] at e0
      subst e0
      refine ⟨d, fun j hj => ?_⟩
      rw [hat j hj]
      first | done | rfl | simp
    obtain ⟨l, hl2, hp⟩ := list_of2 len hd
    subst hl2
    have hbt : Tryz.prog.bytesOf 3 = 8 := by kernel_rfl
    have hre : reachBytes = 140737488351232 := rfl
    have hwt := hw ((((List.range l.length).map D).length + ((List.range (m - l.length)).map fun j => D (l.length + j)).length) * Tryz.prog.bytesOf 3) (by simp [DataW.weights, Tryz.underlying26])
    rw [hbt, hre, List.length_map, List.length_range] at hwt
    have h1 : l.length * 8 ≤ 140737488351232 := by omega
    refine ⟨some a, l.length, cap, l, rfl, hl, ?_, h1⟩
    by_cases h0 : l.length = 0
    · exact .inl ⟨h0, some a, cap, by rw [h0]⟩
    · have hsome : ∀ k (hk : k < l.length), l[k]? = some l[k] := fun k hk => List.getElem?_eq_getElem hk
      have hfirst := hp 0 _ (hsome 0 (by omega)) 0 (by decide)
      obtain ⟨b, off, spot⟩ := a
      have hspot : spot = none := by simpa [Addr.add] using World.cell?_spot (hfirst.trans rfl)
      subst hspot
      refine .inr ⟨by omega, by omega, b, off, cap, rfl, ?_, fun j hj => ?_⟩
      · have := World.block_lt_of_cell? w _ (hfirst.trans rfl)
        simpa [add_plain] using this
      · have hk : j / 1 < l.length := by omega
        have := hp (j / 1) _ (hsome _ hk) (j % 1) (by omega)
        rw [add_plain, add_plain, show off + j / 1 * 1 + j % 1 = off + j from by omega] at this
        rw [this, i64C]
        have e1 : j / 1 = j := Nat.div_one j
        have e2 : j % 1 = 0 := Nat.mod_one j
        rw [e1] at hk
        simp [hsome _ hk, e2]

set_option maxRecDepth 100000 in
theorem strs_part {H : Type} {enc : TypeId × Value → H} {w : World} {base n : Nat} {spare : Nat → Bool} {held : Bool} {c : Value} {x : DataW H × List MemPlace}
    (hf : DataW.trod enc Tryz.prog w base spare held n 27 [c] = some x) (hw : ∀ k ∈ x.1.weights Tryz.prog 27, k ≤ reachBytes) :
    ∃ (a : Option Addr) (len cap : Nat) (l : List ByteArray), c = .slice a len cap ∧ len ≤ cap ∧ StrsAt w c l ∧ l.length * 16 ≤ 140737488351232 := by
  have hC : Tryz.prog.cellsOf 9 = 1 := by kernel_rfl
  rcases open_slice Tryz.underlying27 hf with ⟨hcs, hx⟩ | ⟨a, len, cap, m, nn, D, Pl, hcs, hb, hl, hm, hmm, hx, hi⟩
  · simp only [List.cons.injEq, and_true] at hcs
    subst hcs
    exact ⟨none, 0, 0, [], rfl, Nat.le_refl _, .inl ⟨rfl, _, _, rfl⟩, by decide⟩
  · simp only [List.cons.injEq, and_true] at hcs
    subst hcs
    subst hx
    have hlm : len ≤ m := by rw [hmm]; split <;> omega
    have hd : ∀ i, i < len → ∃ d : ByteArray, ∀ j, j < 1 → w.cell? ((a.add (i * 1)).add j) = [Value.string d][j]? := by
      intro i hi0
      obtain ⟨cs', hc, ht⟩ := hi i (by omega)
      rw [hC] at hc
      obtain ⟨_, hcl, hat⟩ := World.cells?_some hc
      obtain ⟨c0, rfl⟩ := List.length_eq_one_iff.1 hcl
      obtain ⟨d, e0, _⟩ := DataW.trod_string Tryz.underlying9 ht
      simp only [List.cons.injEq, and_true] at e0
      subst e0
      refine ⟨d, fun j hj => ?_⟩
      rw [hat j hj]
      first | done | rfl | simp
    obtain ⟨l, hl2, hp⟩ := list_of2 len hd
    subst hl2
    have hbt : Tryz.prog.bytesOf 9 = 16 := by kernel_rfl
    have hre : reachBytes = 140737488351232 := rfl
    have hwt := hw ((((List.range l.length).map D).length + ((List.range (m - l.length)).map fun j => D (l.length + j)).length) * Tryz.prog.bytesOf 9) (by simp [DataW.weights, Tryz.underlying27])
    rw [hbt, hre, List.length_map, List.length_range] at hwt
    have h1 : l.length * 16 ≤ 140737488351232 := by omega
    refine ⟨some a, l.length, cap, l, rfl, hl, ?_, h1⟩
    by_cases h0 : l.length = 0
    · exact .inl ⟨h0, some a, cap, by rw [h0]⟩
    · have hsome : ∀ k (hk : k < l.length), l[k]? = some l[k] := fun k hk => List.getElem?_eq_getElem hk
      have hfirst := hp 0 _ (hsome 0 (by omega)) 0 (by decide)
      obtain ⟨b, off, spot⟩ := a
      have hspot : spot = none := by simpa [Addr.add] using World.cell?_spot (hfirst.trans rfl)
      subst hspot
      refine .inr ⟨by omega, by omega, b, off, cap, rfl, ?_, fun j hj => ?_⟩
      · have := World.block_lt_of_cell? w _ (hfirst.trans rfl)
        simpa [add_plain] using this
      · have hk : j / 1 < l.length := by omega
        have := hp (j / 1) _ (hsome _ hk) (j % 1) (by omega)
        rw [add_plain, add_plain, show off + j / 1 * 1 + j % 1 = off + j from by omega] at this
        rw [this, strsC]
        have e1 : j / 1 = j := Nat.div_one j
        have e2 : j % 1 = 0 := Nat.mod_one j
        rw [e1] at hk
        simp [hsome _ hk, e2]

theorem weight_each {H : Type} {t : TypeId} {parts : List (DataW H)} {fs : Array Field} {j : Nat} {t' : TypeId} {d : DataW H} (hu : Tryz.prog.underlying t = some (.struct fs)) (ht : (fs.toList.map (·.type))[j]? = some t') (hd : parts[j]? = some d) {k : Nat} (hk : k ∈ d.weights Tryz.prog t') : k ∈ (DataW.agg parts).weights Tryz.prog t := by
  simp only [DataW.weights, hu]
  exact DataW.weights_mem_each ht hd k hk
/-- A manager with a wire, as an argument. -/
def wldV (x : Mgr) (dv fv lv : Value) : Value := .agg #[.int .u64 x.id, .int .i64 x.seq, .int .i64 x.tries, dv, fv, lv]
set_option maxRecDepth 100000 in
theorem open_world {H : Type} {enc : TypeId × Value → H} {w : World} {base : Nat} {spare : Nat → Bool} {held : Bool} {r : Reach} {b0 : Nat} {v : Value} {d : DataW H} {p : List MemPlace}
    (hv : Value.okWide Tryz.prog w r b0 31 v) (h : DataW.Trod enc Tryz.prog w base spare held 31 v d p) (hw : ∀ k ∈ d.weights Tryz.prog 31, k ≤ reachBytes) :
    ∃ (x : Mgr) (da fa la : Option Addr) (dn dc fn fc ln lc : Nat) (y : Wre), v = wldV x (.slice da dn dc) (.slice fa fn fc) (.slice la ln lc) ∧ WireAt w (.slice da dn dc) (.slice fa fn fc) (.slice la ln lc) y ∧ y.devs.length * 56 ≤ 140737488351232 ∧ fn ≤ fc ∧ ln ≤ lc := by
  obtain ⟨cs, rfl, hsz⟩ := okWide_struct Tryz.underlying31 hv
  have hC : Tryz.prog.cellsOf 31 = 6 := by kernel_rfl
  have km : Tryz.prog.cellsOf 24 = 3 := by kernel_rfl
  have kw : Tryz.prog.cellsOf 29 = 3 := by kernel_rfl
  have ku : Tryz.prog.cellsOf 22 = 1 := by kernel_rfl
  have ki : Tryz.prog.cellsOf 3 = 1 := by kernel_rfl
  have kd : Tryz.prog.cellsOf 25 = 1 := by kernel_rfl
  have kf : Tryz.prog.cellsOf 26 = 1 := by kernel_rfl
  have kl : Tryz.prog.cellsOf 27 = 1 := by kernel_rfl
  obtain ⟨l⟩ := cs
  match l, hsz.trans hC with
  | [c0, c1, c2, c3, c4, c5], _ =>
    obtain ⟨fuel, hf⟩ := h
    obtain ⟨xs, n, _, hx, _, hlen, hg⟩ := DataW.trod_struct Tryz.underlying31 hf
    match xs, hlen with
    | [y0, y1], _ =>
      have g0 : DataW.trod enc Tryz.prog w base spare held n 24 [c0, c1, c2] = some y0 := by simpa [Value.cells, km] using hg 0 _ rfl
      have g1 : DataW.trod enc Tryz.prog w base spare held n 29 [c3, c4, c5] = some y1 := by simpa [Value.cells, kw] using hg 1 _ rfl
      have hd1 : d = .agg [y0.1, y1.1] := (Prod.mk.inj hx).1
      obtain ⟨xs0, n0, _, hx0, _, hlen0, hg0⟩ := DataW.trod_struct Tryz.underlying24 g0
      obtain ⟨xs1, n1, _, hx1, _, hlen1, hg1⟩ := DataW.trod_struct Tryz.underlying29 g1
      match xs0, hlen0, xs1, hlen1 with
      | [m0, m1, m2], _, [z0, z1, z2], _ =>
        have e0 : DataW.trod enc Tryz.prog w base spare held n0 22 [c0] = some m0 := by simpa [Value.cells, ku] using hg0 0 _ rfl
        have e1 : DataW.trod enc Tryz.prog w base spare held n0 3 [c1] = some m1 := by simpa [Value.cells, ki] using hg0 1 _ rfl
        have e2 : DataW.trod enc Tryz.prog w base spare held n0 3 [c2] = some m2 := by simpa [Value.cells, ki] using hg0 2 _ rfl
        obtain ⟨id, q0, _, _⟩ := DataW.trod_int Tryz.underlying22 e0
        obtain ⟨seq, q1, _, _⟩ := DataW.trod_int Tryz.underlying3 e1
        obtain ⟨tries, q2, _, _⟩ := DataW.trod_int Tryz.underlying3 e2
        simp only [List.cons.injEq, and_true] at q0 q1 q2
        subst q0 q1 q2
        have f0 : DataW.trod enc Tryz.prog w base spare held n1 25 [c3] = some z0 := by simpa [Value.cells, kd] using hg1 0 _ rfl
        have f1 : DataW.trod enc Tryz.prog w base spare held n1 26 [c4] = some z1 := by simpa [Value.cells, kf] using hg1 1 _ rfl
        have f2 : DataW.trod enc Tryz.prog w base spare held n1 27 [c5] = some z2 := by simpa [Value.cells, kl] using hg1 2 _ rfl
        have hy1 : y1.1 = .agg [z0.1, z1.1, z2.1] := by rw [hx1]; rfl
        have hin : ∀ k ∈ y1.1.weights Tryz.prog 29, k ≤ reachBytes := fun k hk => hw k (by rw [hd1]; exact weight_each (j := 1) Tryz.underlying31 rfl rfl hk)
        rw [hy1] at hin
        obtain ⟨da, dn, dc, ld, rfl, hl0, hv0, hb0⟩ := devs_part f0 fun k hk => hin k (weight_each (j := 0) Tryz.underlying29 rfl rfl hk)
        obtain ⟨fa, fn, fc, lf, rfl, hl1, hv1, _⟩ := ints_part f1 fun k hk => hin k (weight_each (j := 1) Tryz.underlying29 rfl rfl hk)
        obtain ⟨la, ln, lc, ll, rfl, hl2, hv2, _⟩ := strs_part f2 fun k hk => hin k (weight_each (j := 2) Tryz.underlying29 rfl rfl hk)
        exact ⟨⟨id, seq, tries⟩, da, fa, la, dn, dc, fn, fc, ln, lc, ⟨ld, lf, ll⟩, rfl, ⟨hv0, fun a n c e => by cases e; exact hl0, hv1, hv2⟩, hb0, hl1, hl2⟩

set_option maxRecDepth 100000 in
theorem open_req {H : Type} {enc : TypeId × Value → H} {w : World} {base : Nat} {spare : Nat → Bool} {held : Bool} {r : Reach} {b0 : Nat} {v : Value} {d : DataW H} {p : List MemPlace}
    (hv : Value.okWide Tryz.prog w r b0 33 v) (h : DataW.Trod enc Tryz.prog w base spare held 33 v d p) :
    ∃ (dst kind par : Int) (dat : ByteArray), v = .agg #[.int .u64 dst, .int .i64 kind, .int .i64 par, .string dat] ∧ dat.size ≤ maxLen := by
  obtain ⟨cs, rfl, hsz⟩ := okWide_struct Tryz.underlying33 hv
  have hC : Tryz.prog.cellsOf 33 = 4 := by kernel_rfl
  have ku : Tryz.prog.cellsOf 22 = 1 := by kernel_rfl
  have ki : Tryz.prog.cellsOf 3 = 1 := by kernel_rfl
  have ks : Tryz.prog.cellsOf 9 = 1 := by kernel_rfl
  obtain ⟨l⟩ := cs
  match l, hsz.trans hC with
  | [c0, c1, c2, c3], _ =>
    obtain ⟨fuel, hf⟩ := h
    obtain ⟨xs, n, _, _, _, hlen, hg⟩ := DataW.trod_struct Tryz.underlying33 hf
    match xs, hlen with
    | [y0, y1, y2, y3], _ =>
      have g0 : DataW.trod enc Tryz.prog w base spare held n 22 [c0] = some y0 := by simpa [Value.cells, ku] using hg 0 _ rfl
      obtain ⟨dst, e0, _, _⟩ := DataW.trod_int Tryz.underlying22 g0
      have g1 : DataW.trod enc Tryz.prog w base spare held n 3 [c1] = some y1 := by simpa [Value.cells, ki] using hg 1 _ rfl
      obtain ⟨kind, e1, _, _⟩ := DataW.trod_int Tryz.underlying3 g1
      have g2 : DataW.trod enc Tryz.prog w base spare held n 3 [c2] = some y2 := by simpa [Value.cells, ki] using hg 2 _ rfl
      obtain ⟨par, e2, _, _⟩ := DataW.trod_int Tryz.underlying3 g2
      have g3 : DataW.trod enc Tryz.prog w base spare held n 9 [c3] = some y3 := by simpa [Value.cells, ks] using hg 3 _ rfl
      obtain ⟨dat, e3, _, w3⟩ := DataW.trod_string Tryz.underlying9 g3
      simp only [List.cons.injEq, and_true] at e0 e1 e2 e3
      subst e0 e1 e2 e3
      exact ⟨dst, kind, par, dat, rfl, w3⟩
end Go.Proofs.YtpkhcehddfmhpaaGreat

namespace Go.Proofs.YtpkhcehddfmhpaaGreat
open Go.ChangeShapes Go.WideShapes Go.ChangeAt Go.RowKit Go.Deep

theorem dev_lb {H : Type} {enc : TypeId × Value → H} {w : World} {base n : Nat} {spare : Nat → Bool} {held : Bool} {cs : List Value} {x : DataW H × List MemPlace}
    (hsz : cs.length = 7) (hf : DataW.trod enc Tryz.prog w base spare held n 91 cs = some x) : ∃ s : ByteArray, cs[3]? = some (.string s) ∧ s.size ≤ 9223372036854775807 := by
  have ks : Tryz.prog.cellsOf 9 = 1 := by kernel_rfl
  match cs, hsz with
  | [c0, c1, c2, c3, c4, c5, c6], _ =>
    obtain ⟨xs, n, _, _, _, hlen, hg⟩ := DataW.trod_struct Tryz.underlying91 hf
    match xs, hlen with
    | [y0, y1, y2, y3, y4, y5, y6], _ =>
      have g3 : DataW.trod enc Tryz.prog w base spare held n 9 [c3] = some y3 := by simpa [Value.cells, ks] using hg 3 _ rfl
      obtain ⟨lb, e3, _, h⟩ := DataW.trod_string Tryz.underlying9 g3
      simp only [List.cons.injEq, and_true] at e3
      subst e3
      exact ⟨lb, rfl, h⟩

set_option maxRecDepth 100000 in
theorem devs_partL {H : Type} {enc : TypeId × Value → H} {w : World} {base n : Nat} {spare : Nat → Bool} {held : Bool} {c : Value} {x : DataW H × List MemPlace}
    (hf : DataW.trod enc Tryz.prog w base spare held n 25 [c] = some x) (hw : ∀ k ∈ x.1.weights Tryz.prog 25, k ≤ reachBytes) :
    ∃ (a : Option Addr) (len cap : Nat) (l : List Dev), c = .slice a len cap ∧ len ≤ cap ∧ DevsAt w c l ∧ l.length * 56 ≤ 140737488351232 ∧ ∀ d ∈ l, d.lb.size ≤ 9223372036854775807 := by
  have hC : Tryz.prog.cellsOf 91 = 7 := by kernel_rfl
  rcases open_slice Tryz.underlying25 hf with ⟨hcs, hx⟩ | ⟨a, len, cap, m, nn, D, Pl, hcs, hb, hl, hm, hmm, hx, hi⟩
  · simp only [List.cons.injEq, and_true] at hcs
    subst hcs
    exact ⟨none, 0, 0, [], rfl, Nat.le_refl _, .inl ⟨rfl, _, _, rfl⟩, by decide, fun d hd => by cases hd⟩
  · simp only [List.cons.injEq, and_true] at hcs
    subst hcs
    subst hx
    have hlm : len ≤ m := by rw [hmm]; split <;> omega
    have hd : ∀ i, i < len → ∃ d : Dev, ∀ j, j < 7 → w.cell? ((a.add (i * 7)).add j) = (devA d)[j]? := by
      intro i hi0
      obtain ⟨cs', hc, ht⟩ := hi i (by omega)
      rw [hC] at hc
      obtain ⟨_, hcl, hat⟩ := World.cells?_some hc
      obtain ⟨d, rfl⟩ := dev_cs hcl ht
      refine ⟨d, fun j hj => ?_⟩
      rw [hat j hj]
      first | done | rfl | simp
    obtain ⟨l, hl2, hp⟩ := list_of2 len hd
    subst hl2
    have hbt : Tryz.prog.bytesOf 91 = 56 := by kernel_rfl
    have hre : reachBytes = 140737488351232 := rfl
    have hwt := hw ((((List.range l.length).map D).length + ((List.range (m - l.length)).map fun j => D (l.length + j)).length) * Tryz.prog.bytesOf 91) (by simp [DataW.weights, Tryz.underlying25])
    rw [hbt, hre, List.length_map, List.length_range] at hwt
    have h1 : l.length * 56 ≤ 140737488351232 := by omega
    have hlab : ∀ d ∈ l, d.lb.size ≤ 9223372036854775807 := by
      intro d hd
      obtain ⟨k, hk⟩ := List.getElem?_of_mem hd
      have hkl : k < l.length := (List.getElem?_eq_some_iff.1 hk).1
      obtain ⟨cs', hc, ht⟩ := hi k (by omega)
      rw [hC] at hc
      obtain ⟨_, hcl, hat⟩ := World.cells?_some hc
      obtain ⟨s, hs, hsz⟩ := dev_lb hcl ht
      have q1 := hat 3 (by omega)
      have q2 := hp k d hk 3 (by decide)
      rw [q1] at q2
      have q3 : (cs'[3]? : Option Value) = some (.string d.lb) := by
        first | exact q2 | (rw [List.getElem?_eq_getElem (by omega)]; exact q2) | simpa using q2
      rw [hs] at q3
      cases q3
      exact hsz
    refine ⟨some a, l.length, cap, l, rfl, hl, ?_, h1, hlab⟩
    by_cases h0 : l.length = 0
    · exact .inl ⟨h0, some a, cap, by rw [h0]⟩
    · have hsome : ∀ k (hk : k < l.length), l[k]? = some l[k] := fun k hk => List.getElem?_eq_getElem hk
      have hfirst := hp 0 _ (hsome 0 (by omega)) 0 (by decide)
      obtain ⟨b, off, spot⟩ := a
      have hspot : spot = none := by simpa [Addr.add] using World.cell?_spot (hfirst.trans rfl)
      subst hspot
      refine .inr ⟨by omega, by omega, b, off, cap, rfl, ?_, fun j hj => ?_⟩
      · have := World.block_lt_of_cell? w _ (hfirst.trans rfl)
        simpa [add_plain] using this
      · have hk : j / 7 < l.length := by omega
        have := hp (j / 7) _ (hsome _ hk) (j % 7) (by omega)
        rw [add_plain, add_plain, show off + j / 7 * 7 + j % 7 = off + j from by omega] at this
        rw [this, devsC]
        rw [hsome _ hk]
        rfl


set_option maxRecDepth 100000 in
theorem open_devsL {H : Type} {enc : TypeId × Value → H} {w : World} {base : Nat} {spare : Nat → Bool} {held : Bool} {r : Reach} {b0 : Nat} {v : Value} {d : DataW H} {p : List MemPlace}
    (hv : Value.okWide Tryz.prog w r b0 25 v) (h : DataW.Trod enc Tryz.prog w base spare held 25 v d p) (hw : ∀ k ∈ d.weights Tryz.prog 25, k ≤ reachBytes) :
    ∃ (a : Option Addr) (cap : Nat) (l : List Dev), v = .slice a l.length cap ∧ l.length ≤ cap ∧ DevsAt w (.slice a l.length cap) l ∧ l.length * 56 ≤ 140737488351232 ∧ ∀ d ∈ l, d.lb.size ≤ 9223372036854775807 := by
  obtain ⟨a0, len0, cap0, rfl⟩ := okWide_slice Tryz.underlying25 hv
  obtain ⟨fuel, hf⟩ := h
  have hf' : DataW.trod enc Tryz.prog w base spare held fuel 25 [.slice a0 len0 cap0] = some (d, p) := by simpa [Value.cells] using hf
  obtain ⟨a, n, c, l, e, h1, h2, h3, h4⟩ := devs_partL hf' hw
  cases e
  obtain ⟨a', c', e'⟩ := shape_of h2
  cases e'
  exact ⟨_, _, l, rfl, h1, h2, h3, h4⟩
set_option maxRecDepth 100000 in
theorem open_intsL {H : Type} {enc : TypeId × Value → H} {w : World} {base : Nat} {spare : Nat → Bool} {held : Bool} {r : Reach} {b0 : Nat} {v : Value} {d : DataW H} {p : List MemPlace}
    (hv : Value.okWide Tryz.prog w r b0 26 v) (h : DataW.Trod enc Tryz.prog w base spare held 26 v d p) (hw : ∀ k ∈ d.weights Tryz.prog 26, k ≤ reachBytes) :
    ∃ (a : Option Addr) (cap : Nat) (l : List Int), v = .slice a l.length cap ∧ l.length ≤ cap ∧ IntsAt w (.slice a l.length cap) l ∧ l.length * 8 ≤ 140737488351232 := by
  obtain ⟨a0, len0, cap0, rfl⟩ := okWide_slice Tryz.underlying26 hv
  obtain ⟨fuel, hf⟩ := h
  have hf' : DataW.trod enc Tryz.prog w base spare held fuel 26 [.slice a0 len0 cap0] = some (d, p) := by simpa [Value.cells] using hf
  obtain ⟨a, n, c, l, e, h1, h2, h3⟩ := ints_part hf' hw
  cases e
  obtain ⟨a', c', e'⟩ := shape_of h2
  cases e'
  exact ⟨_, _, l, rfl, h1, h2, h3⟩
theorem nil_part {H : Type} {enc : TypeId × Value → H} {w : World} {base n : Nat} {spare : Nat → Bool} {held : Bool} {c : Value} {x : DataW H × List MemPlace}
    (hf : DataW.trod enc Tryz.prog w base spare held n 27 [c] = some x) : NilOne c := by
  rcases open_slice Tryz.underlying27 hf with ⟨hcs, hx⟩ | ⟨a, len, cap, m, nn, D, Pl, hcs, hb, hl, hm, hmm, hx, hi⟩
  · simp only [List.cons.injEq, and_true] at hcs
    subst hcs
    exact fun _ _ _ => rfl
  · simp only [List.cons.injEq, and_true] at hcs
    subst hcs
    exact fun _ _ e => by cases e

set_option maxRecDepth 100000 in
theorem open_worldN {H : Type} {enc : TypeId × Value → H} {w : World} {base : Nat} {spare : Nat → Bool} {held : Bool} {r : Reach} {b0 : Nat} {v : Value} {d : DataW H} {p : List MemPlace}
    (hv : Value.okWide Tryz.prog w r b0 31 v) (h : DataW.Trod enc Tryz.prog w base spare held 31 v d p) (hw : ∀ k ∈ d.weights Tryz.prog 31, k ≤ reachBytes) :
    ∃ (x : Mgr) (da fa la : Option Addr) (dn dc fn fc ln lc : Nat) (y : Wre), v = wldV x (.slice da dn dc) (.slice fa fn fc) (.slice la ln lc) ∧ WireAt w (.slice da dn dc) (.slice fa fn fc) (.slice la ln lc) y ∧ y.devs.length * 56 ≤ 140737488351232 ∧ fn ≤ fc ∧ ln ≤ lc ∧ NilOne (.slice la ln lc) := by
  obtain ⟨cs, rfl, hsz⟩ := okWide_struct Tryz.underlying31 hv
  have hC : Tryz.prog.cellsOf 31 = 6 := by kernel_rfl
  have km : Tryz.prog.cellsOf 24 = 3 := by kernel_rfl
  have kw : Tryz.prog.cellsOf 29 = 3 := by kernel_rfl
  have ku : Tryz.prog.cellsOf 22 = 1 := by kernel_rfl
  have ki : Tryz.prog.cellsOf 3 = 1 := by kernel_rfl
  have kd : Tryz.prog.cellsOf 25 = 1 := by kernel_rfl
  have kf : Tryz.prog.cellsOf 26 = 1 := by kernel_rfl
  have kl : Tryz.prog.cellsOf 27 = 1 := by kernel_rfl
  obtain ⟨l⟩ := cs
  match l, hsz.trans hC with
  | [c0, c1, c2, c3, c4, c5], _ =>
    obtain ⟨fuel, hf⟩ := h
    obtain ⟨xs, n, _, hx, _, hlen, hg⟩ := DataW.trod_struct Tryz.underlying31 hf
    match xs, hlen with
    | [y0, y1], _ =>
      have g0 : DataW.trod enc Tryz.prog w base spare held n 24 [c0, c1, c2] = some y0 := by simpa [Value.cells, km] using hg 0 _ rfl
      have g1 : DataW.trod enc Tryz.prog w base spare held n 29 [c3, c4, c5] = some y1 := by simpa [Value.cells, kw] using hg 1 _ rfl
      have hd1 : d = .agg [y0.1, y1.1] := (Prod.mk.inj hx).1
      obtain ⟨xs0, n0, _, hx0, _, hlen0, hg0⟩ := DataW.trod_struct Tryz.underlying24 g0
      obtain ⟨xs1, n1, _, hx1, _, hlen1, hg1⟩ := DataW.trod_struct Tryz.underlying29 g1
      match xs0, hlen0, xs1, hlen1 with
      | [m0, m1, m2], _, [z0, z1, z2], _ =>
        have e0 : DataW.trod enc Tryz.prog w base spare held n0 22 [c0] = some m0 := by simpa [Value.cells, ku] using hg0 0 _ rfl
        have e1 : DataW.trod enc Tryz.prog w base spare held n0 3 [c1] = some m1 := by simpa [Value.cells, ki] using hg0 1 _ rfl
        have e2 : DataW.trod enc Tryz.prog w base spare held n0 3 [c2] = some m2 := by simpa [Value.cells, ki] using hg0 2 _ rfl
        obtain ⟨id, q0, _, _⟩ := DataW.trod_int Tryz.underlying22 e0
        obtain ⟨seq, q1, _, _⟩ := DataW.trod_int Tryz.underlying3 e1
        obtain ⟨tries, q2, _, _⟩ := DataW.trod_int Tryz.underlying3 e2
        simp only [List.cons.injEq, and_true] at q0 q1 q2
        subst q0 q1 q2
        have f0 : DataW.trod enc Tryz.prog w base spare held n1 25 [c3] = some z0 := by simpa [Value.cells, kd] using hg1 0 _ rfl
        have f1 : DataW.trod enc Tryz.prog w base spare held n1 26 [c4] = some z1 := by simpa [Value.cells, kf] using hg1 1 _ rfl
        have f2 : DataW.trod enc Tryz.prog w base spare held n1 27 [c5] = some z2 := by simpa [Value.cells, kl] using hg1 2 _ rfl
        have hy1 : y1.1 = .agg [z0.1, z1.1, z2.1] := by rw [hx1]; rfl
        have hin : ∀ k ∈ y1.1.weights Tryz.prog 29, k ≤ reachBytes := fun k hk => hw k (by rw [hd1]; exact weight_each (j := 1) Tryz.underlying31 rfl rfl hk)
        rw [hy1] at hin
        obtain ⟨da, dn, dc, ld, rfl, hl0, hv0, hb0⟩ := devs_part f0 fun k hk => hin k (weight_each (j := 0) Tryz.underlying29 rfl rfl hk)
        obtain ⟨fa, fn, fc, lf, rfl, hl1, hv1, _⟩ := ints_part f1 fun k hk => hin k (weight_each (j := 1) Tryz.underlying29 rfl rfl hk)
        have hnil := nil_part f2
        obtain ⟨la, ln, lc, ll, rfl, hl2, hv2, _⟩ := strs_part f2 fun k hk => hin k (weight_each (j := 2) Tryz.underlying29 rfl rfl hk)
        exact ⟨⟨id, seq, tries⟩, da, fa, la, dn, dc, fn, fc, ln, lc, ⟨ld, lf, ll⟩, rfl, ⟨hv0, fun a n c e => by cases e; exact hl0, hv1, hv2⟩, hb0, hl1, hl2, hnil⟩

end Go.Proofs.YtpkhcehddfmhpaaGreat
