/-
  Arguments that are devices, messages or settings: what the reading says of their fields.
  An argument that is a slice of devices: what the reading says.
  Arguments that are slices of messages, of identities, or a span: what the reading says.
-/
import Derived.Test.YtpjmhhfpjhmiiaaGreatIds
import Derived.Test.YtpjmhhfpjhmiiaaGreatRows
import Derived.WalkKit
import Derived.ProofKit
import Derived.OpenShut
import Derived.ShutString
import Derived.ChangeOld
import Derived.Below
import Derived.Test.YtpjmhhfpjhmiiaaGreatSame
import Derived.Deep.Slices
import Derived.Test.YtpjmhhfpjhmiiaaGreatSk
namespace Go.Proofs.YtpjmhhfpjhmiiaaGreat
open Go.ChangeShapes Go.WideShapes Go.ChangeAt Go.RowKit
open Go.ChangeMaps (open_string shut_string)

set_option maxRecDepth 100000 in
theorem open_dev {H : Type} {enc : TypeId × Value → H} {w : World} {base : Nat} {spare : Nat → Bool} {held : Bool} {r : Reach} {b0 : Nat} {v : Value} {d : DataW H} {p : List MemPlace}
    (hv : Value.okWide Tryz.prog w r b0 68 v) (h : DataW.Trod enc Tryz.prog w base spare held 68 v d p) :
    ∃ (id : Int) (ft : Int) (ad : Int) (lb : ByteArray) (hr : Int) (mu : Bool) (idf : Bool), v = .agg #[.int .u64 id, .int .i64 ft, .int .i64 ad, .string lb, .int .i64 hr, .bool mu, .bool idf] ∧ (Lit.int .u64 id).wf = true ∧ (Lit.int .i64 ft).wf = true ∧ (Lit.int .i64 ad).wf = true ∧ lb.size ≤ maxLen ∧ (Lit.int .i64 hr).wf = true := by
  obtain ⟨cs, rfl, hsz⟩ := okWide_struct Tryz.underlying68 hv
  have hC : Tryz.prog.cellsOf 68 = 7 := by kernel_rfl
  have ku : Tryz.prog.cellsOf 22 = 1 := by kernel_rfl
  have ki : Tryz.prog.cellsOf 3 = 1 := by kernel_rfl
  have ks : Tryz.prog.cellsOf 9 = 1 := by kernel_rfl
  have kb : Tryz.prog.cellsOf 4 = 1 := by kernel_rfl
  obtain ⟨l⟩ := cs
  match l, hsz.trans hC with
  | [c0, c1, c2, c3, c4, c5, c6], _ =>
    obtain ⟨fuel, hf⟩ := h
    obtain ⟨xs, n, _, _, _, hlen, hg⟩ := DataW.trod_struct Tryz.underlying68 hf
    match xs, hlen with
    | [y0, y1, y2, y3, y4, y5, y6], _ =>
      have g0 : DataW.trod enc Tryz.prog w base spare held n 22 [c0] = some y0 := by simpa [Value.cells, ku] using hg 0 _ rfl
      obtain ⟨id, e0, _, w0⟩ := DataW.trod_int Tryz.underlying22 g0
      simp only [List.cons.injEq, and_true] at e0
      subst e0
      have g1 : DataW.trod enc Tryz.prog w base spare held n 3 [c1] = some y1 := by simpa [Value.cells, ki] using hg 1 _ rfl
      obtain ⟨ft, e1, _, w1⟩ := DataW.trod_int Tryz.underlying3 g1
      simp only [List.cons.injEq, and_true] at e1
      subst e1
      have g2 : DataW.trod enc Tryz.prog w base spare held n 3 [c2] = some y2 := by simpa [Value.cells, ki] using hg 2 _ rfl
      obtain ⟨ad, e2, _, w2⟩ := DataW.trod_int Tryz.underlying3 g2
      simp only [List.cons.injEq, and_true] at e2
      subst e2
      have g3 : DataW.trod enc Tryz.prog w base spare held n 9 [c3] = some y3 := by simpa [Value.cells, ks] using hg 3 _ rfl
      obtain ⟨lb, e3, _, w3⟩ := DataW.trod_string Tryz.underlying9 g3
      simp only [List.cons.injEq, and_true] at e3
      subst e3
      have g4 : DataW.trod enc Tryz.prog w base spare held n 3 [c4] = some y4 := by simpa [Value.cells, ki] using hg 4 _ rfl
      obtain ⟨hr, e4, _, w4⟩ := DataW.trod_int Tryz.underlying3 g4
      simp only [List.cons.injEq, and_true] at e4
      subst e4
      have g5 : DataW.trod enc Tryz.prog w base spare held n 4 [c5] = some y5 := by simpa [Value.cells, kb] using hg 5 _ rfl
      obtain ⟨mu, e5, _⟩ := DataW.trod_bool Tryz.underlying4 g5
      simp only [List.cons.injEq, and_true] at e5
      subst e5
      have g6 : DataW.trod enc Tryz.prog w base spare held n 4 [c6] = some y6 := by simpa [Value.cells, kb] using hg 6 _ rfl
      obtain ⟨idf, e6, _⟩ := DataW.trod_bool Tryz.underlying4 g6
      simp only [List.cons.injEq, and_true] at e6
      subst e6
      exact ⟨id, ft, ad, lb, hr, mu, idf, rfl, w0, w1, w2, w3, w4⟩

set_option maxRecDepth 100000 in
theorem open_msg {H : Type} {enc : TypeId × Value → H} {w : World} {base : Nat} {spare : Nat → Bool} {held : Bool} {r : Reach} {b0 : Nat} {v : Value} {d : DataW H} {p : List MemPlace}
    (hv : Value.okWide Tryz.prog w r b0 64 v) (h : DataW.Trod enc Tryz.prog w base spare held 64 v d p) :
    ∃ (dst : Int) (src : Int) (seq : Int) (kind : Int) (par : Int) (dat : ByteArray), v = .agg #[.int .u64 dst, .int .u64 src, .int .i64 seq, .int .i64 kind, .int .i64 par, .string dat] ∧ (Lit.int .u64 dst).wf = true ∧ (Lit.int .u64 src).wf = true ∧ (Lit.int .i64 seq).wf = true ∧ (Lit.int .i64 kind).wf = true ∧ (Lit.int .i64 par).wf = true ∧ dat.size ≤ maxLen := by
  obtain ⟨cs, rfl, hsz⟩ := okWide_struct Tryz.underlying64 hv
  have hC : Tryz.prog.cellsOf 64 = 6 := by kernel_rfl
  have ku : Tryz.prog.cellsOf 22 = 1 := by kernel_rfl
  have ki : Tryz.prog.cellsOf 3 = 1 := by kernel_rfl
  have ks : Tryz.prog.cellsOf 9 = 1 := by kernel_rfl
  have kb : Tryz.prog.cellsOf 4 = 1 := by kernel_rfl
  obtain ⟨l⟩ := cs
  match l, hsz.trans hC with
  | [c0, c1, c2, c3, c4, c5], _ =>
    obtain ⟨fuel, hf⟩ := h
    obtain ⟨xs, n, _, _, _, hlen, hg⟩ := DataW.trod_struct Tryz.underlying64 hf
    match xs, hlen with
    | [y0, y1, y2, y3, y4, y5], _ =>
      have g0 : DataW.trod enc Tryz.prog w base spare held n 22 [c0] = some y0 := by simpa [Value.cells, ku] using hg 0 _ rfl
      obtain ⟨dst, e0, _, w0⟩ := DataW.trod_int Tryz.underlying22 g0
      simp only [List.cons.injEq, and_true] at e0
      subst e0
      have g1 : DataW.trod enc Tryz.prog w base spare held n 22 [c1] = some y1 := by simpa [Value.cells, ku] using hg 1 _ rfl
      obtain ⟨src, e1, _, w1⟩ := DataW.trod_int Tryz.underlying22 g1
      simp only [List.cons.injEq, and_true] at e1
      subst e1
      have g2 : DataW.trod enc Tryz.prog w base spare held n 3 [c2] = some y2 := by simpa [Value.cells, ki] using hg 2 _ rfl
      obtain ⟨seq, e2, _, w2⟩ := DataW.trod_int Tryz.underlying3 g2
      simp only [List.cons.injEq, and_true] at e2
      subst e2
      have g3 : DataW.trod enc Tryz.prog w base spare held n 3 [c3] = some y3 := by simpa [Value.cells, ki] using hg 3 _ rfl
      obtain ⟨kind, e3, _, w3⟩ := DataW.trod_int Tryz.underlying3 g3
      simp only [List.cons.injEq, and_true] at e3
      subst e3
      have g4 : DataW.trod enc Tryz.prog w base spare held n 3 [c4] = some y4 := by simpa [Value.cells, ki] using hg 4 _ rfl
      obtain ⟨par, e4, _, w4⟩ := DataW.trod_int Tryz.underlying3 g4
      simp only [List.cons.injEq, and_true] at e4
      subst e4
      have g5 : DataW.trod enc Tryz.prog w base spare held n 9 [c5] = some y5 := by simpa [Value.cells, ks] using hg 5 _ rfl
      obtain ⟨dat, e5, _, w5⟩ := DataW.trod_string Tryz.underlying9 g5
      simp only [List.cons.injEq, and_true] at e5
      subst e5
      exact ⟨dst, src, seq, kind, par, dat, rfl, w0, w1, w2, w3, w4, w5⟩

end Go.Proofs.YtpjmhhfpjhmiiaaGreat

namespace Go.Proofs.YtpjmhhfpjhmiiaaGreat
open Go.ChangeShapes Go.WideShapes Go.ChangeAt Go.RowKit Go.Deep

set_option maxRecDepth 100000 in
theorem dev_cs {H : Type} {enc : TypeId × Value → H} {w : World} {base n : Nat} {spare : Nat → Bool} {held : Bool} {cs : List Value} {x : DataW H × List MemPlace}
    (hsz : cs.length = 7) (hf : DataW.trod enc Tryz.prog w base spare held n 68 cs = some x) : ∃ d : Dev, cs = (devA d).toList := by
  have ku : Tryz.prog.cellsOf 22 = 1 := by kernel_rfl
  have ki : Tryz.prog.cellsOf 3 = 1 := by kernel_rfl
  have ks : Tryz.prog.cellsOf 9 = 1 := by kernel_rfl
  have kb : Tryz.prog.cellsOf 4 = 1 := by kernel_rfl
  match cs, hsz with
  | [c0, c1, c2, c3, c4, c5, c6], _ =>
    obtain ⟨xs, n, _, _, _, hlen, hg⟩ := DataW.trod_struct Tryz.underlying68 hf
    match xs, hlen with
    | [y0, y1, y2, y3, y4, y5, y6], _ =>
      have g0 : DataW.trod enc Tryz.prog w base spare held n 22 [c0] = some y0 := by simpa [Value.cells, ku] using hg 0 _ rfl
      obtain ⟨id, e0, _, _⟩ := DataW.trod_int Tryz.underlying22 g0
      simp only [List.cons.injEq, and_true] at e0
      subst e0
      have g1 : DataW.trod enc Tryz.prog w base spare held n 3 [c1] = some y1 := by simpa [Value.cells, ki] using hg 1 _ rfl
      obtain ⟨ft, e1, _, _⟩ := DataW.trod_int Tryz.underlying3 g1
      simp only [List.cons.injEq, and_true] at e1
      subst e1
      have g2 : DataW.trod enc Tryz.prog w base spare held n 3 [c2] = some y2 := by simpa [Value.cells, ki] using hg 2 _ rfl
      obtain ⟨ad, e2, _, _⟩ := DataW.trod_int Tryz.underlying3 g2
      simp only [List.cons.injEq, and_true] at e2
      subst e2
      have g3 : DataW.trod enc Tryz.prog w base spare held n 9 [c3] = some y3 := by simpa [Value.cells, ks] using hg 3 _ rfl
      obtain ⟨lb, e3, _, _⟩ := DataW.trod_string Tryz.underlying9 g3
      simp only [List.cons.injEq, and_true] at e3
      subst e3
      have g4 : DataW.trod enc Tryz.prog w base spare held n 3 [c4] = some y4 := by simpa [Value.cells, ki] using hg 4 _ rfl
      obtain ⟨hr, e4, _, _⟩ := DataW.trod_int Tryz.underlying3 g4
      simp only [List.cons.injEq, and_true] at e4
      subst e4
      have g5 : DataW.trod enc Tryz.prog w base spare held n 4 [c5] = some y5 := by simpa [Value.cells, kb] using hg 5 _ rfl
      obtain ⟨mu, e5, _⟩ := DataW.trod_bool Tryz.underlying4 g5
      simp only [List.cons.injEq, and_true] at e5
      subst e5
      have g6 : DataW.trod enc Tryz.prog w base spare held n 4 [c6] = some y6 := by simpa [Value.cells, kb] using hg 6 _ rfl
      obtain ⟨idf, e6, _⟩ := DataW.trod_bool Tryz.underlying4 g6
      simp only [List.cons.injEq, and_true] at e6
      subst e6
      exact ⟨⟨id, ft, ad, lb, hr, mu, idf⟩, rfl⟩

theorem list_of {P : Nat → Dev → Prop} (n : Nat) (h : ∀ i, i < n → ∃ d, P i d) : ∃ l : List Dev, l.length = n ∧ ∀ i d, l[i]? = some d → P i d := by
  induction n with
  | zero => exact ⟨[], rfl, fun i d hd => by simp at hd⟩
  | succ n ih =>
    obtain ⟨l, hl, hp⟩ := ih fun i hi => h i (by omega)
    obtain ⟨d, hd⟩ := h n (by omega)
    refine ⟨l ++ [d], by simp [hl], fun i d' hd' => ?_⟩
    by_cases hi : i < n
    · rw [List.getElem?_append_left (by omega)] at hd'
      exact hp i d' hd'
    · rw [List.getElem?_append_right (by omega), hl] at hd'
      have : i = n := by
        by_cases h0 : i - n = 0
        · omega
        · rw [List.getElem?_eq_none (by simp; omega)] at hd'; cases hd'
      subst this
      simp at hd'
      subst hd'
      exact hd

theorem add_plain (b off k : Nat) : (⟨b, off, none⟩ : Addr).add k = ⟨b, off + k, none⟩ := by unfold Addr.add; split <;> simp_all

set_option maxRecDepth 100000 in
theorem open_devs {H : Type} {enc : TypeId × Value → H} {w : World} {base : Nat} {spare : Nat → Bool} {held : Bool} {r : Reach} {b0 : Nat} {v : Value} {d : DataW H} {p : List MemPlace}
    (hv : Value.okWide Tryz.prog w r b0 25 v) (h : DataW.Trod enc Tryz.prog w base spare held 25 v d p) :
    (v = .slice none 0 0 ∧ d = .nil) ∨ ∃ (elems sp : List (DataW H)) (l : List Dev), d = .slice elems sp ∧ elems.length = l.length ∧ (l.length ≤ 140737488351232 → DevsAt w v l) := by
  obtain ⟨a0, len0, cap0, rfl⟩ := okWide_slice Tryz.underlying25 hv
  have hC : Tryz.prog.cellsOf 68 = 7 := by kernel_rfl
  obtain ⟨fuel, hf⟩ := h
  rcases open_slice Tryz.underlying25 hf with ⟨hcs, hx⟩ | ⟨a, len, cap, m, n, D, Pl, hcs, hb, hl, hm, hmm, hx, hi⟩
  · simp [Value.cells] at hcs
    obtain ⟨rfl, rfl, rfl⟩ := hcs
    simp only [Prod.mk.injEq] at hx
    exact .inl ⟨rfl, hx.1⟩
  · simp [Value.cells] at hcs
    obtain ⟨rfl, rfl, rfl⟩ := hcs
    simp only [Prod.mk.injEq] at hx
    have hlm : len0 ≤ m := by rw [hmm]; split <;> omega
    have hd : ∀ i, i < len0 → ∃ d : Dev, ∀ j, j < 7 → w.cell? ((a.add (i * 7)).add j) = (devA d)[j]? := by
      intro i hi0
      obtain ⟨cs', hc, ht⟩ := hi i (by omega)
      rw [hC] at hc
      obtain ⟨_, hcl, hat⟩ := World.cells?_some hc
      obtain ⟨d, rfl⟩ := dev_cs hcl ht
      refine ⟨d, fun j hj => ?_⟩
      rw [hat j hj]
      simp
    obtain ⟨l, hl2, hp⟩ := list_of len0 hd
    refine .inr ⟨_, _, l, hx.1, by simp [hl2], fun hbig => ?_⟩
    subst hl2
    by_cases h0 : l.length = 0
    · exact .inl ⟨h0, some a, cap0, by rw [h0]⟩
    · have hsome : ∀ k (hk : k < l.length), l[k]? = some l[k] := fun k hk => List.getElem?_eq_getElem hk
      have hfirst := hp 0 _ (hsome 0 (by omega)) 0 (by decide)
      obtain ⟨b, off, spot⟩ := a
      have hspot : spot = none := by simpa [Addr.add] using World.cell?_spot (hfirst.trans rfl)
      subst hspot
      refine .inr ⟨by omega, hbig, b, off, cap0, rfl, ?_, fun j hj => ?_⟩
      · have := World.block_lt_of_cell? w _ (hfirst.trans rfl)
        simpa [add_plain] using this
      · have hk : j / 7 < l.length := by omega
        have := hp (j / 7) _ (hsome _ hk) (j % 7) (by omega)
        rw [add_plain, add_plain, show off + j / 7 * 7 + j % 7 = off + j from by omega] at this
        rw [this, devsC, hsome _ hk]
        rfl

end Go.Proofs.YtpjmhhfpjhmiiaaGreat

namespace Go.Proofs.YtpjmhhfpjhmiiaaGreat
open Go.ChangeShapes Go.WideShapes Go.ChangeAt Go.RowKit Go.Deep

set_option maxRecDepth 100000 in
theorem msg_cs {H : Type} {enc : TypeId × Value → H} {w : World} {base n : Nat} {spare : Nat → Bool} {held : Bool} {cs : List Value} {x : DataW H × List MemPlace}
    (hsz : cs.length = 6) (hf : DataW.trod enc Tryz.prog w base spare held n 64 cs = some x) : ∃ d : Msg, cs = (msgA d).toList := by
  have ku : Tryz.prog.cellsOf 22 = 1 := by kernel_rfl
  have ki : Tryz.prog.cellsOf 3 = 1 := by kernel_rfl
  have ks : Tryz.prog.cellsOf 9 = 1 := by kernel_rfl
  match cs, hsz with
  | [c0, c1, c2, c3, c4, c5], _ =>
    obtain ⟨xs, n, _, _, _, hlen, hg⟩ := DataW.trod_struct Tryz.underlying64 hf
    match xs, hlen with
    | [y0, y1, y2, y3, y4, y5], _ =>
      have g0 : DataW.trod enc Tryz.prog w base spare held n 22 [c0] = some y0 := by simpa [Value.cells, ku] using hg 0 _ rfl
      obtain ⟨dst, e0, _, _⟩ := DataW.trod_int Tryz.underlying22 g0
      simp only [List.cons.injEq, and_true] at e0
      subst e0
      have g1 : DataW.trod enc Tryz.prog w base spare held n 22 [c1] = some y1 := by simpa [Value.cells, ku] using hg 1 _ rfl
      obtain ⟨src, e1, _, _⟩ := DataW.trod_int Tryz.underlying22 g1
      simp only [List.cons.injEq, and_true] at e1
      subst e1
      have g2 : DataW.trod enc Tryz.prog w base spare held n 3 [c2] = some y2 := by simpa [Value.cells, ki] using hg 2 _ rfl
      obtain ⟨seq, e2, _, _⟩ := DataW.trod_int Tryz.underlying3 g2
      simp only [List.cons.injEq, and_true] at e2
      subst e2
      have g3 : DataW.trod enc Tryz.prog w base spare held n 3 [c3] = some y3 := by simpa [Value.cells, ki] using hg 3 _ rfl
      obtain ⟨kind, e3, _, _⟩ := DataW.trod_int Tryz.underlying3 g3
      simp only [List.cons.injEq, and_true] at e3
      subst e3
      have g4 : DataW.trod enc Tryz.prog w base spare held n 3 [c4] = some y4 := by simpa [Value.cells, ki] using hg 4 _ rfl
      obtain ⟨par, e4, _, _⟩ := DataW.trod_int Tryz.underlying3 g4
      simp only [List.cons.injEq, and_true] at e4
      subst e4
      have g5 : DataW.trod enc Tryz.prog w base spare held n 9 [c5] = some y5 := by simpa [Value.cells, ks] using hg 5 _ rfl
      obtain ⟨dat, e5, _, _⟩ := DataW.trod_string Tryz.underlying9 g5
      simp only [List.cons.injEq, and_true] at e5
      subst e5
      exact ⟨⟨dst, src, seq, kind, par, dat⟩, rfl⟩

theorem list_gen {α : Type} {P : Nat → α → Prop} (n : Nat) (h : ∀ i, i < n → ∃ d, P i d) : ∃ l : List α, l.length = n ∧ ∀ i d, l[i]? = some d → P i d := by
  induction n with
  | zero => exact ⟨[], rfl, fun i d hd => by simp at hd⟩
  | succ n ih =>
    obtain ⟨l, hl, hp⟩ := ih fun i hi => h i (by omega)
    obtain ⟨d, hd⟩ := h n (by omega)
    refine ⟨l ++ [d], by simp [hl], fun i d' hd' => ?_⟩
    by_cases hi : i < n
    · rw [List.getElem?_append_left (by omega)] at hd'
      exact hp i d' hd'
    · rw [List.getElem?_append_right (by omega), hl] at hd'
      have : i = n := by
        by_cases h0 : i - n = 0
        · omega
        · rw [List.getElem?_eq_none (by simp; omega)] at hd'; cases hd'
      subst this
      simp at hd'
      subst hd'
      exact hd

set_option maxRecDepth 100000 in
theorem open_msgs {H : Type} {enc : TypeId × Value → H} {w : World} {base : Nat} {spare : Nat → Bool} {held : Bool} {r : Reach} {b0 : Nat} {v : Value} {d : DataW H} {p : List MemPlace}
    (hv : Value.okWide Tryz.prog w r b0 77 v) (h : DataW.Trod enc Tryz.prog w base spare held 77 v d p) :
    (v = .slice none 0 0 ∧ d = .nil) ∨ ∃ (elems sp : List (DataW H)) (l : List Msg), d = .slice elems sp ∧ elems.length = l.length ∧ (l.length ≤ 140737488351232 → MsgsAt w v l) := by
  obtain ⟨a0, len0, cap0, rfl⟩ := okWide_slice Tryz.underlying77 hv
  have hC : Tryz.prog.cellsOf 64 = 6 := by kernel_rfl
  obtain ⟨fuel, hf⟩ := h
  rcases open_slice Tryz.underlying77 hf with ⟨hcs, hx⟩ | ⟨a, len, cap, m, n, D, Pl, hcs, hb, hl, hm, hmm, hx, hi⟩
  · simp [Value.cells] at hcs
    obtain ⟨rfl, rfl, rfl⟩ := hcs
    simp only [Prod.mk.injEq] at hx
    exact .inl ⟨rfl, hx.1⟩
  · simp [Value.cells] at hcs
    obtain ⟨rfl, rfl, rfl⟩ := hcs
    simp only [Prod.mk.injEq] at hx
    have hlm : len0 ≤ m := by rw [hmm]; split <;> omega
    have hd : ∀ i, i < len0 → ∃ d : Msg, ∀ j, j < 6 → w.cell? ((a.add (i * 6)).add j) = (msgA d)[j]? := by
      intro i hi0
      obtain ⟨cs', hc, ht⟩ := hi i (by omega)
      rw [hC] at hc
      obtain ⟨_, hcl, hat⟩ := World.cells?_some hc
      obtain ⟨d, rfl⟩ := msg_cs hcl ht
      refine ⟨d, fun j hj => ?_⟩
      rw [hat j hj]
      simp
    obtain ⟨l, hl2, hp⟩ := list_gen len0 hd
    refine .inr ⟨_, _, l, hx.1, by simp [hl2], fun hbig => ?_⟩
    subst hl2
    by_cases h0 : l.length = 0
    · exact .inl ⟨h0, some a, cap0, by rw [h0]⟩
    · have hsome : ∀ k (hk : k < l.length), l[k]? = some l[k] := fun k hk => List.getElem?_eq_getElem hk
      have hfirst := hp 0 _ (hsome 0 (by omega)) 0 (by decide)
      obtain ⟨b, off, spot⟩ := a
      have hspot : spot = none := by simpa [Addr.add] using World.cell?_spot (hfirst.trans rfl)
      subst hspot
      refine .inr ⟨by omega, hbig, b, off, cap0, rfl, ?_, fun j hj => ?_⟩
      · have := World.block_lt_of_cell? w _ (hfirst.trans rfl)
        simpa [add_plain] using this
      · have hk : j / 6 < l.length := by omega
        have := hp (j / 6) _ (hsome _ hk) (j % 6) (by omega)
        rw [add_plain, add_plain, show off + j / 6 * 6 + j % 6 = off + j from by omega] at this
        rw [this, msgsC, hsome _ hk]
        rfl

set_option maxRecDepth 100000 in
theorem open_ids {H : Type} {enc : TypeId × Value → H} {w : World} {base : Nat} {spare : Nat → Bool} {held : Bool} {r : Reach} {b0 : Nat} {v : Value} {d : DataW H} {p : List MemPlace}
    (hv : Value.okWide Tryz.prog w r b0 84 v) (h : DataW.Trod enc Tryz.prog w base spare held 84 v d p) :
    (v = .slice none 0 0 ∧ d = .nil) ∨ ∃ (elems sp : List (DataW H)) (l : List Int), d = .slice elems sp ∧ elems.length = l.length ∧ (l.length ≤ 140737488351232 → IdsAt w v l) := by
  obtain ⟨a0, len0, cap0, rfl⟩ := okWide_slice Tryz.underlying84 hv
  have hC : Tryz.prog.cellsOf 22 = 1 := by kernel_rfl
  obtain ⟨fuel, hf⟩ := h
  rcases open_slice Tryz.underlying84 hf with ⟨hcs, hx⟩ | ⟨a, len, cap, m, n, D, Pl, hcs, hb, hl, hm, hmm, hx, hi⟩
  · simp [Value.cells] at hcs
    obtain ⟨rfl, rfl, rfl⟩ := hcs
    simp only [Prod.mk.injEq] at hx
    exact .inl ⟨rfl, hx.1⟩
  · simp [Value.cells] at hcs
    obtain ⟨rfl, rfl, rfl⟩ := hcs
    simp only [Prod.mk.injEq] at hx
    have hlm : len0 ≤ m := by rw [hmm]; split <;> omega
    have hd : ∀ i, i < len0 → ∃ d : Int, ∀ j, j < 1 → w.cell? ((a.add (i * 1)).add j) = [Value.int .u64 d][j]? := by
      intro i hi0
      obtain ⟨cs', hc, ht⟩ := hi i (by omega)
      rw [hC] at hc
      obtain ⟨_, hcl, hat⟩ := World.cells?_some hc
      obtain ⟨c0, rfl⟩ := List.length_eq_one_iff.1 hcl
      obtain ⟨d, e0, _, _⟩ := DataW.trod_int Tryz.underlying22 ht
      simp only [List.cons.injEq, and_true] at e0
      subst e0
      refine ⟨d, fun j hj => ?_⟩
      rw [hat j hj]
    obtain ⟨l, hl2, hp⟩ := list_gen len0 hd
    refine .inr ⟨_, _, l, hx.1, by simp [hl2], fun hbig => ?_⟩
    subst hl2
    by_cases h0 : l.length = 0
    · exact .inl ⟨h0, some a, cap0, by rw [h0]⟩
    · have hsome : ∀ k (hk : k < l.length), l[k]? = some l[k] := fun k hk => List.getElem?_eq_getElem hk
      have hfirst := hp 0 _ (hsome 0 (by omega)) 0 (by decide)
      obtain ⟨b, off, spot⟩ := a
      have hspot : spot = none := by simpa [Addr.add] using World.cell?_spot (hfirst.trans rfl)
      subst hspot
      refine .inr ⟨by omega, hbig, b, off, cap0, rfl, ?_, fun j hj => ?_⟩
      · have := World.block_lt_of_cell? w _ (hfirst.trans rfl)
        simpa [add_plain] using this
      · have hk : j < l.length := by omega
        have := hp j _ (hsome _ hk) 0 (by omega)
        rw [add_plain, add_plain, show off + j * 1 + 0 = off + j from by omega] at this
        rw [this, u64C, hsome _ hk]
        rfl

set_option maxRecDepth 100000 in
theorem ids_cap {H : Type} {enc : TypeId × Value → H} {w : World} {base : Nat} {spare : Nat → Bool} {held : Bool} {r : Reach} {b0 : Nat} {v : Value} {d : DataW H} {p : List MemPlace}
    (hv : Value.okWide Tryz.prog w r b0 84 v) (h : DataW.Trod enc Tryz.prog w base spare held 84 v d p) : ∀ a n c, v = .slice a n c → n ≤ c := by
  obtain ⟨a0, len0, cap0, rfl⟩ := okWide_slice Tryz.underlying84 hv
  obtain ⟨fuel, hf⟩ := h
  rcases open_slice Tryz.underlying84 hf with ⟨hcs, _⟩ | ⟨a, len, cap, m, n, D, Pl, hcs, _, hl, _⟩
  · simp [Value.cells] at hcs
    obtain ⟨rfl, rfl, rfl⟩ := hcs
    rintro a n c e
    cases e
    exact Nat.le_refl _
  · simp [Value.cells] at hcs
    obtain ⟨rfl, rfl, rfl⟩ := hcs
    rintro a n c e
    cases e
    exact hl
end Go.Proofs.YtpjmhhfpjhmiiaaGreat
