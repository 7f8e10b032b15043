/- -/
import Derived.Test.YtjeigphhepngmaaGreatDoorBas
import Derived.OrdersHeld
import Derived.Test.YtjeigphhepngmaaGreatDoorProg
import Derived.Deep.AppendLies
import Derived.Test.YtjeigphhepngmaaGreatDoorJa
import Derived.Laws.Bits64
import Derived.Laws.Bits64b
import Derived.Laws.BitsAllLaws
import Derived.Shelf.Strings.BuilderK
import Derived.Deep.RegionHeld3
namespace Go.Proofs.YtjeigphhepngmaaGreatDoor
open Go.RowKit
open Go.Lib (hid)
set_option maxHeartbeats 8000000
set_option maxRecDepth 100000
def Upd (b : Nat) (w w' : World) : Prop := w.grownBy w' (some b)
theorem za5 (b : Nat) (w : World) : Upd b w w := ⟨rfl, rfl, rfl, Nat.le_refl _, fun _ _ _ => rfl⟩
theorem zfi {b : Nat} {a w : World} (h : Upd b a w) (n : Nat) : Upd b a (w.drewN n) := ⟨h.os, h.tape, h.output, h.size, h.block⟩
theorem zav {b : Nat} {a w : World} (h : Upd b a w) (o : Nat) (u : Value) : Upd b a (w.setCell ⟨b, o, none⟩ u) :=
 ⟨h.os, h.tape, h.output, by simpa using h.size, fun k hk hne => (heap_setCell_other w ⟨b, o, none⟩ k u (fun e => hne (by simp [e]))).trans (h.block k hk hne)⟩
theorem ze6 {b : Nat} {a w : World} (h : Upd b a w) (o : Obj) : Upd b a (w.alloc o) :=
 ⟨h.os, h.tape, h.output, by have := h.size; simp; omega, fun k hk hne => (Below.heap_alloc w o k (by have := h.size; omega)).trans (h.block k hk hne)⟩
theorem zbp {b : Nat} {a w w' : World} (h : Upd b a w) (hb : Below w.heap.size w w') : Upd b a w' :=
 ⟨hb.os.trans h.os, hb.tape.trans h.tape, hb.output.trans h.output, Nat.le_trans h.size hb.size, fun k hk hne => (hb.block k (by have := h.size; omega)).trans (h.block k hk hne)⟩
theorem zbh {b : Nat} {a w w' : World} (h : Upd b a w) (hb : Upd b w w') : Upd b a w' :=
 ⟨hb.os.trans h.os, hb.tape.trans h.tape, hb.output.trans h.output, Nat.le_trans h.size hb.size, fun k hk hne => (hb.block k (by have := h.size; omega) hne).trans (h.block k hk hne)⟩
theorem zaw {a w w' : World} {b : Nat} (h : Below a.heap.size a w) (hu : Upd b w w') (hb : a.heap.size ≤ b) : Below a.heap.size a w' :=
 ⟨hu.os.trans h.os, hu.tape.trans h.tape, hu.output.trans h.output, Nat.le_trans h.size hu.size, fun k hk => (hu.block k (by have := h.size; omega) (by simp; omega)).trans (h.block k hk)⟩
theorem zay {a w w' : World} (h : Below a.heap.size a w) (hb : Below w.heap.size w w') : Below a.heap.size a w' := zag h h.size hb
def RowAt (w : World) (b : Nat) (T : Nat) (cs : Array Value) : Prop := w.heap[b]? = some (.cells cs T (0, 0))
theorem RowAt.below {w w' : World} {b B T : Nat} {cs : Array Value} (h : RowAt w b T cs) (hb : Below B w w') (hB : b < B) : RowAt w' b T cs := (hb.block b hB).trans h
theorem RowAt.run {w w' : World} {b T : Nat} {cs : Array Value} (h : RowAt w b T cs) (hb : Below w.heap.size w w') : RowAt w' b T cs := (hb.block b (lt_of_block h)).trans h
theorem RowAt.far {w : World} {b T : Nat} {cs : Array Value} {p : Addr} {u : Value} (h : RowAt w b T cs) (hne : b ≠ p.block) : RowAt (w.setCell p u) b T cs := (heap_setCell_other w p b u hne).trans h
theorem RowAt.alloc {w : World} {b T : Nat} {cs : Array Value} (h : RowAt w b T cs) (o : Obj) : RowAt (w.alloc o) b T cs := (Below.heap_alloc w o b (lt_of_block h)).trans h
theorem RowAt.drewN {w : World} {b T : Nat} {cs : Array Value} (h : RowAt w b T cs) (n : Nat) : RowAt (w.drewN n) b T cs := h
theorem RowAt.drew {w : World} {b T : Nat} {cs : Array Value} (h : RowAt w b T cs) : RowAt w.drew b T cs := h
theorem RowAt.new (w : World) (T : Nat) (cs : Array Value) : RowAt (w.alloc (.cells cs T)) w.heap.size T cs := heap_alloc_new w _
theorem RowAt.mk {w : World} {b T : Nat} {cs cs' : Array Value} (hb : b = w.heap.size) (hc : cs' = cs) : RowAt (w.alloc (.cells cs' T)) b T cs := by
 subst hb hc
 exact heap_alloc_new w _
theorem RowAt.set {w : World} {b T : Nat} {cs cs' : Array Value} {i : Nat} {u : Value} (h : RowAt w b T cs) (he : cs.setIfInBounds i u = cs') : RowAt (w.setCell ⟨b, i, none⟩ u) b T cs' := by
 unfold RowAt at *
 rw [heap_setCell_same w b i _ _ u h, he]
theorem RowAt.upd {w w' : World} {b k T : Nat} {cs : Array Value} (h : RowAt w k T cs) (hu : Upd b w w') (hne : k ≠ b) : RowAt w' k T cs := (hu.block k (lt_of_block h) (by simp; omega)).trans h
theorem zaa {w : World} {b T : Nat} {cs : Array Value} (h : RowAt w b T cs) :
  (∀ o, w.cell? ⟨b, o, none⟩ = cs[o]?) ∧ (∀ o, w.frozen? ⟨b, o, none⟩ = false) ∧ b < w.heap.size ∧ b ≤ w.heap.size ∧ ¬ b = w.heap.size ∧ ¬ w.heap.size = b := by
 have hlt := lt_of_block h
 exact ⟨fun o => cell_of_row w b o _ _ _ h, fun o => frozen_of_row w b o _ _ h, hlt, by omega, by omega, by omega⟩
theorem RowAt.six {w : World} {k T : Nat} {a b c d e f v0 v1 v2 v3 v4 v5 : Value} (h : RowAt w k T #[a, b, c, d, e, f]) :
  RowAt ((((((w.setCell ⟨k, 0, none⟩ v0).setCell ⟨k, 1, none⟩ v1).setCell ⟨k, 2, none⟩ v2).setCell ⟨k, 3, none⟩ v3).setCell ⟨k, 4, none⟩ v4).setCell ⟨k, 5, none⟩ v5) k T #[v0, v1, v2, v3, v4, v5] := by
 have h0 : RowAt _ k T #[v0, b, c, d, e, f] := RowAt.set (i := 0) (u := v0) h rfl
 have h1 : RowAt _ k T #[v0, v1, c, d, e, f] := RowAt.set (i := 1) (u := v1) h0 rfl
 have h2 : RowAt _ k T #[v0, v1, v2, d, e, f] := RowAt.set (i := 2) (u := v2) h1 rfl
 have h3 : RowAt _ k T #[v0, v1, v2, v3, e, f] := RowAt.set (i := 3) (u := v3) h2 rfl
 have h4 : RowAt _ k T #[v0, v1, v2, v3, v4, f] := RowAt.set (i := 4) (u := v4) h3 rfl
 exact RowAt.set h4 rfl
theorem RowAt.seven {w : World} {k T : Nat} {a b c d e f g v0 v1 v2 v3 v4 v5 v6 : Value} (h : RowAt w k T #[a, b, c, d, e, f, g]) :
  RowAt (((((((w.setCell ⟨k, 0, none⟩ v0).setCell ⟨k, 1, none⟩ v1).setCell ⟨k, 2, none⟩ v2).setCell ⟨k, 3, none⟩ v3).setCell ⟨k, 4, none⟩ v4).setCell ⟨k, 5, none⟩ v5).setCell ⟨k, 6, none⟩ v6) k T #[v0, v1, v2, v3, v4, v5, v6] := by
 have h0 : RowAt _ k T #[v0, b, c, d, e, f, g] := RowAt.set (i := 0) (u := v0) h rfl
 have h1 : RowAt _ k T #[v0, v1, c, d, e, f, g] := RowAt.set (i := 1) (u := v1) h0 rfl
 have h2 : RowAt _ k T #[v0, v1, v2, d, e, f, g] := RowAt.set (i := 2) (u := v2) h1 rfl
 have h3 : RowAt _ k T #[v0, v1, v2, v3, e, f, g] := RowAt.set (i := 3) (u := v3) h2 rfl
 have h4 : RowAt _ k T #[v0, v1, v2, v3, v4, f, g] := RowAt.set (i := 4) (u := v4) h3 rfl
 have h5 : RowAt _ k T #[v0, v1, v2, v3, v4, v5, g] := RowAt.set (i := 5) (u := v5) h4 rfl
 exact RowAt.set h5 rfl
theorem RowAt.far1 {w : World} {b g i T : Nat} {cs : Array Value} {u : Value} (h : RowAt w b T cs) (hne : ¬ b = g) : RowAt (w.setCell ⟨g, i, none⟩ u) b T cs := h.far hne
theorem za0 {B : Nat} {a w : World} {g i : Nat} {u : Value} (h : Below B a w) (hg : B ≤ g) : Below B a (w.setCell ⟨g, i, none⟩ u) := h.setCell hg _
theorem zs8 {B : Nat} {a w : World} {g : Nat} {v0 v1 v2 v3 v4 v5 : Value} (h : Below B a w) (hg : B ≤ g) : Below B a ((((((w.setCell ⟨g, 0, none⟩ v0).setCell ⟨g, 1, none⟩ v1).setCell ⟨g, 2, none⟩ v2).setCell ⟨g, 3, none⟩ v3).setCell ⟨g, 4, none⟩ v4).setCell ⟨g, 5, none⟩ v5) := za0 (za0 (za0 (za0 (za0 (za0 h hg) hg) hg) hg) hg) hg
theorem zo0 {B : Nat} {a w : World} {g : Nat} {v0 v1 v2 v3 v4 v5 v6 : Value} (h : Below B a w) (hg : B ≤ g) : Below B a (((((((w.setCell ⟨g, 0, none⟩ v0).setCell ⟨g, 1, none⟩ v1).setCell ⟨g, 2, none⟩ v2).setCell ⟨g, 3, none⟩ v3).setCell ⟨g, 4, none⟩ v4).setCell ⟨g, 5, none⟩ v5).setCell ⟨g, 6, none⟩ v6) := za0 (za0 (za0 (za0 (za0 (za0 (za0 h hg) hg) hg) hg) hg) hg) hg
theorem bel {P : Prop} (h : P := by (repeat' (first | (with_reducible exact Below.refl _ _) | (with_reducible assumption) | (with_reducible refine zay ?_ (by assumption)) | (with_reducible refine zaw ?_ (by assumption) ?_) | (with_reducible refine zbc ?_ _) | (with_reducible refine Below.drew ?_) | (with_reducible refine zo0 ?_ ?_) | (with_reducible refine zs8 ?_ ?_) | (with_reducible refine za0 ?_ ?_) | (with_reducible refine Below.alloc ?_ ?_ _) | (with_reducible refine zag ?_ ?_ (by assumption)) | (show _ ≤ _; first | omega | (simp; done) | (simp; omega))))) : P := h
theorem rwt {P : Prop} (h : P := by (repeat' (first | (with_reducible assumption) | (with_reducible refine RowAt.drewN ?_ _) | (with_reducible refine RowAt.drew ?_) | (with_reducible apply RowAt.six) | (with_reducible apply RowAt.seven) | ((with_reducible refine RowAt.mk ?_ ?_); (focus (first | rfl | (simp; done))); rfl) | (with_reducible refine RowAt.alloc ?_ _) | (with_reducible refine RowAt.far ?_ ?_) | (with_reducible refine RowAt.run ?_ (by assumption)) | (with_reducible refine RowAt.below ?_ (by assumption) ?_) | (with_reducible refine RowAt.upd ?_ (by assumption) ?_) | (show _ < _; first | omega | (simp; done) | (simp; omega)) | (show ¬ _ = _; first | omega | (simp; done) | (simp; omega)) | exact rfl))) : P := h
section
variable {P : Program} {ops : Array Oper} {Q : Exit → Act → World → Prop} {md : Region.Mode} {S : World → Prop} {fuel : Nat} {l l' : Array Bool} {a a' : Act} {w : World}
theorem tk (i : Nat) {o : Oper} {v : Value} (h : wpAnyH P md ops Q S fuel l' a' w) (hi : ops[i]? = some o := by exact rfl) (hw : Region.wanted o (yielded ops a.tmps) = true := by exact rfl)
 (hv : ∀ w', S w' → (execOp a.eval o).run P w' = .ok (.value v) w' := by intro w' hSw; (try dsimp only at hSw); go_simp; (try with_reducible rfl)) (hS : S w := by assumption)
 (ha : a.put o.dst v = a' := by (try simp only [Act.put, List.setIfInBounds_toArray, List.set_cons_zero, List.set_cons_succ, List.getElem_toArray, List.getElem_cons_succ, List.getElem_cons_zero]); exact rfl) (hl : l.setIfInBounds i true = l' := by (try simp only [Act.put, List.setIfInBounds_toArray, List.set_cons_zero, List.set_cons_succ, List.getElem_toArray, List.getElem_cons_succ, List.getElem_cons_zero]); exact rfl)
 (hs : Region.noSelect ops = true := by kernel_rfl) (hf : Region.free md ops l i = true := by kernel_rfl) (hr : (Region.ready md ops l).contains i = true := by kernel_rfl) (hQ : ∀ c a w, Q (.panic c) (a.put o.dst v) w → Q (.panic c) a w := by exact fun _ _ _ h => h) :
 wpAnyH P md ops Q S (fuel + 1) l a w := by subst ha; subst hl; exact wpAnyH_take hi hs hf hr hQ (Or.inl ⟨hw, hv⟩) hS h
theorem tu (i : Nat) {o : Oper} (h : wpAnyH P md ops Q S fuel l' a' w) (hi : ops[i]? = some o := by exact rfl) (hw : Region.wanted o (yielded ops a.tmps) = false := by exact rfl) (hS : S w := by assumption)
 (ha : a.put o.dst undef = a' := by (try simp only [Act.put, List.setIfInBounds_toArray, List.set_cons_zero, List.set_cons_succ, List.getElem_toArray, List.getElem_cons_succ, List.getElem_cons_zero]); exact rfl) (hl : l.setIfInBounds i true = l' := by (try simp only [Act.put, List.setIfInBounds_toArray, List.set_cons_zero, List.set_cons_succ, List.getElem_toArray, List.getElem_cons_succ, List.getElem_cons_zero]); exact rfl)
 (hs : Region.noSelect ops = true := by kernel_rfl) (hf : Region.free md ops l i = true := by kernel_rfl) (hr : (Region.ready md ops l).contains i = true := by kernel_rfl) (hQ : ∀ c a w, Q (.panic c) (a.put o.dst undef) w → Q (.panic c) a w := by exact fun _ _ _ h => h) :
 wpAnyH P md ops Q S (fuel + 1) l a w := by subst ha; subst hl; exact wpAnyH_take hi hs hf hr hQ (Or.inr ⟨hw, rfl⟩) hS h
theorem ty (i : Nat) {o : Oper} {v : Value} (h : wpAny P md ops Q fuel l' a' w) (hi : ops[i]? = some o := by exact rfl) (hw : Region.wanted o (yielded ops a.tmps) = true := by exact rfl)
 (hv : ∀ w', (execOp a.eval o).run P w' = .ok (.value v) w' := by intro w'; go_simp; (try with_reducible rfl))
 (ha : a.put o.dst v = a' := by (try simp only [Act.put, List.setIfInBounds_toArray, List.set_cons_zero, List.set_cons_succ, List.getElem_toArray, List.getElem_cons_succ, List.getElem_cons_zero]); exact rfl) (hl : l.setIfInBounds i true = l' := by (try simp only [Act.put, List.setIfInBounds_toArray, List.set_cons_zero, List.set_cons_succ, List.getElem_toArray, List.getElem_cons_succ, List.getElem_cons_zero]); exact rfl)
 (hs : Region.noSelect ops = true := by kernel_rfl) (hf : Region.free md ops l i = true := by kernel_rfl) (hr : (Region.ready md ops l).contains i = true := by kernel_rfl) (hQ : ∀ c a w, Q (.panic c) (a.put o.dst v) w → Q (.panic c) a w := by exact fun _ _ _ h => h) :
 wpAny P md ops Q (fuel + 1) l a w := by subst ha; subst hl; exact wpAny_take hi hs hf hr hQ (Or.inl ⟨hw, hv⟩) h
end
def SeqAt (w : World) (S : Nat) (v : Value) (n : Nat) (cs : Nat → Option Value) : Prop :=
 (n = 0 ∧ ∃ a cap, v = .slice a 0 cap) ∨ (0 < n ∧ n ≤ 140737488351232 ∧ ∃ b off cap, v = .slice (some ⟨b, off, none⟩) n cap ∧ b < w.heap.size ∧ ∀ j, j < n * S → w.cell? ⟨b, off + j, none⟩ = cs j)
theorem SeqAt.below {w w' : World} {S n : Nat} {v : Value} {cs : Nat → Option Value} (h : SeqAt w S v n cs) (hb : Below w.heap.size w w') : SeqAt w' S v n cs := by
 rcases h with h | ⟨h0, h1, b, off, cap, rfl, hlt, hc⟩
 · exact .inl h
 exact .inr ⟨h0, h1, b, off, cap, rfl, Nat.lt_of_lt_of_le hlt hb.size, fun j hj => (hb.cell (p := ⟨b, off + j, none⟩) hlt).trans (hc j hj)⟩
theorem zaf {α : Type} {l : List α} {k : Nat} {d : α} (h : l[k]? = some d) : l.take (k + 1) = l.take k ++ [d] := by
 rw [List.take_add_one, h]
 rfl
theorem zn0 {w : World} {base T S n : Nat} {v : Value} {xs : List Value} {cs : Nat → Option Value} (h : w.ownsRow base T S v n xs) (hn : n ≤ 140737488351232) (hx : ∀ j : Nat, xs[j]? = cs j) : SeqAt w S v n cs := by
 rcases h.2 with ⟨rfl, rfl⟩ | ⟨g, cap, cur, rfl, hb, hg, hnc, hcm, hcs, htake⟩
 · exact .inl ⟨rfl, _, _, rfl⟩
 by_cases h0 : n = 0
 · subst h0
   exact .inl ⟨rfl, _, _, rfl⟩
 refine .inr ⟨by omega, hn, g, 0, cap, rfl, lt_of_block hg, fun j hj => ?_⟩
 rw [Nat.zero_add, h.cellAt j hj, hx]
theorem zb9 {B : Nat} {a w w' : World} {v : Value} {base T S n : Nat} {xs : List Value} (h : Below B a w) (hown : w.ownsRow base T S v n xs) (hB : B ≤ base) (hg : w.grownBy w' v.ownBlock) (hs : B ≤ w.heap.size) : Below B a w' := by
 refine h.trans ⟨hg.os, hg.tape, hg.output, hg.size, fun k hk => hg.block k (by omega) (fun e => ?_)⟩
 have := (hown.lt k e.symm).1
 omega
def u8L (l : List UInt8) : List Value := l.map fun b => Value.int .u8 (b.toNat : Int)
def OwnB (w : World) (B : Nat) (v : Value) (l : List UInt8) : Prop := w.ownsRow B 5 1 v l.length (u8L l)
theorem zld (w : World) (B : Nat) : OwnB w B (.slice none 0 0) [] := World.ownsRow_nil _ _ _ _
theorem OwnB.parts {w : World} {B : Nat} {v : Value} {l : List UInt8} (h : OwnB w B v l) (h0 : 0 < l.length) : ∃ g cap, v = .slice (some ⟨g, 0, none⟩) l.length cap ∧ B ≤ g ∧ g < w.heap.size ∧ l.length ≤ cap ∧
  (∀ i (hi : i < l.length), w.cell? ⟨g, i, none⟩ = some (.int .u8 (l[i].toNat : Int))) ∧ (∀ i, w.frozen? ⟨g, i, none⟩ = false) := by
 rcases h.2 with ⟨rfl, hn⟩ | ⟨g, cap, cur, rfl, hb, hg, hnc, hcm, hcs, htake⟩
 · omega
 refine ⟨g, cap, rfl, hb, lt_of_block hg, hnc, fun i hi => ?_, fun i => frozen_of_row w g i _ _ hg⟩
 rw [cell_of_row w g i _ _ _ hg]
 have e : (u8L l)[i]? = some (.int .u8 (l[i].toNat : Int)) := by simp [u8L, List.getElem?_eq_getElem hi]
 rw [← htake, List.getElem?_take, if_pos (by omega)] at e
 simpa using e
theorem OwnB.shape {w : World} {B : Nat} {v : Value} {l : List UInt8} (h : OwnB w B v l) : ∃ a cap, v = .slice a l.length cap := by
 rcases h.2 with ⟨rfl, hn⟩ | ⟨g, cap, cur, rfl, _⟩
 · exact ⟨none, 0, by rw [hn]⟩
 exact ⟨_, _, rfl⟩
theorem OwnB.set {w : World} {B g cap : Nat} {l : List UInt8} (h : OwnB w B (.slice (some ⟨g, 0, none⟩) l.length cap) l) (i : Nat) (x : UInt8) : OwnB (w.setCell ⟨g, i, none⟩ (.int .u8 (x.toNat : Int))) B (.slice (some ⟨g, 0, none⟩) l.length cap) (l.set i x) := by
 rcases h.2 with ⟨e, _⟩ | ⟨g', cap', cur, e, hb, hg, hnc, hcm, hcs, htake⟩
 · cases e
 cases e
 refine ⟨by simp [u8L], .inr ⟨g, cap, cur.setIfInBounds i (.int .u8 (x.toNat : Int)), by simp, hb, heap_setCell_same w g i _ _ _ hg, by simp; exact hnc, hcm, by simp [hcs], ?_⟩⟩
 have e2 : u8L (l.set i x) = (u8L l).set i (.int .u8 (x.toNat : Int)) := by simp [u8L, List.map_set]
 rw [e2, ← htake, List.length_set, Array.toList_setIfInBounds, List.take_set]
theorem OwnB.drewN {w : World} {B : Nat} {v : Value} {l : List UInt8} (h : OwnB w B v l) (n : Nat) : OwnB (w.drewN n) B v l := h
theorem OwnB.drew {w : World} {B : Nat} {v : Value} {l : List UInt8} (h : OwnB w B v l) : OwnB w.drew B v l := h
theorem Tryz.info_byte : (Tryz.prog.info? 5).map (fun i => (i.zero, i.size, i.bytes)) = some (some (.int .u8 0), 1, 1) := by kernel_rfl
theorem zdl (l : List UInt8) : strOfNums (l.map fun b => (b.toNat : Int)) = str l := by
 simp [strOfNums, str, Function.comp_def]
theorem Tryz.conv_nil (w : World) : (convert 59 9 (.slice none 0 0)).run Tryz.prog w = .ok (.string (str [])) w := by kernel_rfl
theorem zle {w : World} {B : Nat} {v : Value} {l : List UInt8} (h : OwnB w B v l) : (convert 59 9 v).run Tryz.prog w = .ok (.string (str l)) w := by
 by_cases h0 : 0 < l.length
 · obtain ⟨g, cap, rfl, _, _, _, hc, _⟩ := h.parts h0
   rw [← zdl]
   refine run_convert_bytes_arg w 59 5 Tryz.underlying59 Tryz.underlying5 g 0 l.length cap _ (by simp) (fun i hi => ?_) 9 Tryz.underlying9
   rw [Nat.zero_add, hc i hi]
   simp [List.getElem?_map, List.getElem?_eq_getElem hi]
 have hl : l = [] := List.eq_nil_of_length_eq_zero (by omega)
 subst hl
 rcases h.2 with ⟨rfl, _⟩ | ⟨g, cap, cur, rfl, _⟩
 · exact Tryz.conv_nil w
 rw [← zdl]
 exact run_convert_bytes_arg w 59 5 Tryz.underlying59 Tryz.underlying5 g 0 0 cap [] rfl (fun i hi => by omega) 9 Tryz.underlying9
section
variable {α : Type} {S : Nat} {f : α → Array Value}
def genL (f : α → Array Value) (l : List α) : List Value := l.flatMap fun x => (f x).toList
def genC (S : Nat) (f : α → Array Value) (l : List α) (j : Nat) : Option Value := (l[j / S]?).bind fun d => (f d)[j % S]?
def ListAt (S : Nat) (f : α → Array Value) (w : World) (v : Value) (l : List α) : Prop := SeqAt w S v l.length (genC S f l)
theorem zs1 (x : α) (l : List α) : genL f (x :: l) = (f x).toList ++ genL f l := by simp [genL]
theorem zdf (a : List α) (x : α) : genL f (a ++ [x]) = genL f a ++ (f x).toList := by simp [genL]
theorem zet (hS : 0 < S) (hf : ∀ x, (f x).size = S) (l : List α) (j : Nat) : (genL f l)[j]? = genC S f l j := by
 induction l generalizing j with
 | nil => simp [genL, genC]
 | cons d l ih =>
   have h7 : (f d).toList.length = S := by rw [Array.length_toList, hf]
   rw [zs1]
   by_cases hj : j < S
   · rw [List.getElem?_append_left (by omega), genC, Nat.div_eq_of_lt hj, Nat.mod_eq_of_lt hj]
     simp
   have h1 : j / S = (j - S) / S + 1 := by rw [Nat.div_eq_sub_div hS (by omega)]
   have h2 : j % S = (j - S) % S := by rw [Nat.mod_eq_sub_mod (by omega)]
   rw [List.getElem?_append_right (by omega), h7, ih, genC, genC, h1, h2]
   simp
theorem zoy (hS : 0 < S) (l : List α) (k : Nat) (hk : k < l.length) (i : Nat) (hi : i < S) : genC S f l (k * S + i) = (f l[k])[i]? := by
 have h1 : (k * S + i) / S = k := by rw [Nat.mul_comm, Nat.mul_add_div hS, Nat.div_eq_of_lt hi]; rfl
 have h2 : (k * S + i) % S = i := by rw [Nat.mul_comm, Nat.mul_add_mod, Nat.mod_eq_of_lt hi]
 unfold genC
 rw [h1, h2, List.getElem?_eq_getElem hk]
 rfl
theorem za2 {w : World} {b off : Nat} {l : List α} (hS : 0 < S) (hc : ∀ j, j < l.length * S → w.cell? ⟨b, off + j, none⟩ = genC S f l j) (k : Nat) (hk : k < l.length) (i : Nat) (hi : i < S) :
  w.cell? ⟨b, off + k * S + i, none⟩ = (f l[k])[i]? := by
 have : k * S + i < l.length * S := by
  have := Nat.mul_le_mul_right S (show k + 1 ≤ l.length from hk)
  rw [Nat.succ_mul] at this
  omega
 rw [Nat.add_assoc, hc _ this, zoy hS l k hk i hi]
theorem zft {w : World} {base T : Nat} {v : Value} {l : List α} (hS : 0 < S) (hf : ∀ x, (f x).size = S) (h : w.ownsRow base T S v l.length (genL f l)) (hn : l.length ≤ 140737488351232) : ListAt S f w v l := zn0 h hn (zet hS hf l)
theorem ListAt.run {w w' : World} {v : Value} {l : List α} (h : ListAt S f w v l) (hb : Below w.heap.size w w') : ListAt S f w' v l := SeqAt.below h hb
theorem ListAt.alloc {w : World} {v : Value} {l : List α} (h : ListAt S f w v l) (o : Obj) : ListAt S f (w.alloc o) v l := h.run ((Below.refl _ _).alloc (Nat.le_refl _) o)
theorem ListAt.drew {w : World} {v : Value} {l : List α} (h : ListAt S f w v l) : ListAt S f w.drew v l := h
theorem ListAt.shape {w : World} {v : Value} {l : List α} (h : ListAt S f w v l) : ∃ a cap, v = .slice a l.length cap := by
 rcases h with ⟨h0, a, cap, rfl⟩ | ⟨_, _, b, off, cap, rfl, _⟩
 · exact ⟨a, cap, by rw [h0]⟩
 exact ⟨_, _, rfl⟩
theorem ListAt.few {w : World} {v : Value} {l : List α} (h : ListAt S f w v l) : l.length ≤ 140737488351232 := by
 rcases h with ⟨h0, _⟩ | ⟨_, h1, _⟩ <;> omega
theorem zlc {w w' : World} {B T S n k U : Nat} {v : Value} {xs : List Value} {cs : Array Value} (h : w.ownsRow B T S v n xs) (hr : RowAt w k U cs) (hne : T ≠ U) (hu : Upd k w w') : w'.ownsRow B T S v n xs := by
 refine ⟨h.1, ?_⟩
 rcases h.2 with hn | ⟨g, cap, cur, rfl, hbg, hg, rest⟩
 · exact .inl hn
 refine .inr ⟨g, cap, cur, rfl, hbg, (hu.block g (lt_of_block hg) fun e => ?_).trans hg, rest⟩
 simp at e
 subst e
 unfold RowAt at hr
 rw [hr] at hg
 simp at hg
 exact hne hg.2.symm
end
theorem zcw {w w' : World} {base T S n : Nat} {v : Value} {xs : List Value} (h : w.ownsRow base T S v n xs) (hb : Below w.heap.size w w') : w'.ownsRow base T S v n xs := by
 refine ⟨h.1, ?_⟩
 rcases h.2 with hn | ⟨g, cap, cur, rfl, hbg, hg, rest⟩
 · exact .inl hn
 exact .inr ⟨g, cap, cur, rfl, hbg, (hb.block g (lt_of_block hg)).trans hg, rest⟩
theorem zdc {w w' : World} {b1 T1 S1 n1 k T : Nat} {v1 : Value} {x1 : List Value} {cs : Array Value} (h1 : w.ownsRow b1 T1 S1 v1 n1 x1) (h2 : RowAt w k T cs) (hne : T1 ≠ T) (hg : w.grownBy w' v1.ownBlock) : RowAt w' k T cs := by
 refine (hg.block k (lt_of_block h2) fun e => ?_).trans h2
 rcases h1.2 with ⟨rfl, _⟩ | ⟨g1, c1, u1, rfl, _, hg1, _⟩
 · cases e
 simp [Value.ownBlock] at e
 subst e
 unfold RowAt at h2
 rw [h2] at hg1
 simp at hg1
 exact hne hg1.2.symm
theorem zc9 {w : World} {base T S n : Nat} {v : Value} {xs : List Value} (h : w.ownsRow base T S v n xs) : ∃ a cap, v = .slice a n cap ∧ n ≤ cap := by
 rcases h.2 with ⟨rfl, hn⟩ | ⟨g, cap, cur, rfl, hbg, hg, hnc, rest⟩
 · exact ⟨none, 0, by rw [hn], by omega⟩
 exact ⟨_, _, rfl, hnc⟩
def NewB (B : Nat) (v : Value) : Prop := ∀ g off n cap, v = .slice (some ⟨g, off, none⟩) n cap → B ≤ g
theorem zd9 (x : Nat) (h : x < 18446744073709551616) : x ^^^ 18446744073709551615 = 18446744073709551615 - x := by
 have h1 := congrArg BitVec.toNat (BitVec.xor_allOnes (x := BitVec.ofNat 64 x))
 rw [BitVec.toNat_xor, BitVec.toNat_not, BitVec.toNat_allOnes] at h1
 simp only [BitVec.toNat_ofNat] at h1
 rw [Nat.mod_eq_of_lt (by omega)] at h1
 simpa using h1
theorem zlv (x : Nat) (h : x < 18446744073709551616) : 18446744073709551615 ^^^ x = 18446744073709551615 - x := by rw [Nat.xor_comm]; exact zd9 x h
theorem zda {n : Int} (h1 : -9223372036854775808 ≤ n) (h2 : n ≤ 9223372036854775807) : zig n < 18446744073709551616 := by
 unfold zig
 split <;> omega
theorem zhz {n : Int} (h0 : 0 ≤ n) (h2 : n ≤ 9223372036854775807) : IntKind.u64.wrap (IntKind.u64.wrap n * 2) = ((zig n : Nat) : Int) := by
 unfold zig
 rw [if_pos h0]
 simp only [IntKind.wrap_u64]
 omega
theorem zie {n : Int} (h0 : n < 0) (h1 : -9223372036854775808 ≤ n) : IntKind.u64.wrap (IntKind.u64.wrap n * 2) = ((18446744073709551615 - zig n : Nat) : Int) := by
 unfold zig
 rw [if_neg (by omega)]
 simp only [IntKind.wrap_u64]
 omega
theorem zsn (n : Int) (h1 : -9223372036854775808 ≤ n) (h2 : n ≤ 9223372036854775807) :
   bits BinOp.xor IntKind.u64 (IntKind.u64.wrap (IntKind.u64.wrap n * 2)) (IntKind.u64.wrap (n / 9223372036854775808)) = ((zig n : Nat) : Int) := by
 have hz := zda h1 h2
 by_cases h0 : 0 ≤ n
 · rw [zhz h0 h2, show n / 9223372036854775808 = ((0 : Nat) : Int) from by omega, show IntKind.u64.wrap ((0 : Nat) : Int) = ((0 : Nat) : Int) from rfl, bits_xor_u64_nat _ _ hz (by decide)]
   simp
 rw [zie (by omega) h1, show n / 9223372036854775808 = -1 from by omega, show IntKind.u64.wrap (-1) = ((18446744073709551615 : Nat) : Int) from rfl, bits_xor_u64_nat _ _ (by omega) (by decide), zd9 _ (by omega)]
 congr 1
 omega
theorem zm4 (n : Int) (h0 : n < 0) (h1 : -9223372036854775808 ≤ n) :
  bits BinOp.xor IntKind.u64 IntKind.u64.max (IntKind.u64.wrap (IntKind.u64.wrap n * 2)) = ((zig n : Nat) : Int) := by
 have hz := zda h1 (by omega)
 rw [zie h0 h1, show IntKind.u64.max = ((18446744073709551615 : Nat) : Int) from rfl, bits_xor_u64_nat _ _ (by decide) (by omega), zlv _ (by omega)]
 congr 1
 omega
theorem zej {z : Nat} (h : z < 128) : vint z = [UInt8.ofNat z] := by rw [vint, if_pos h]
theorem zdv {z : Nat} (h : ¬ z < 128) : vint z = UInt8.ofNat (z % 128 + 128) :: vint (z / 128) := by rw [vint, if_neg h]
theorem zfn {z : Nat} (hz : z < 18446744073709551616) : (vint z).length ≤ 10 := by
 have : ∀ (k z : Nat), z < 128 ^ k → 0 < k → (vint z).length ≤ k := by
  intro k
  induction k with
  | zero => intro z _ h; omega
  | succ k ih =>
    intro z hz _
    by_cases h : z < 128
    · rw [zej h]; simp
    rw [zdv h, List.length_cons]
    have hk : 0 < k := by
     rcases Nat.eq_zero_or_pos k with rfl | h'
     · simp at hz; omega
     exact h'
    have := ih (z / 128) (by rw [Nat.pow_succ] at hz; omega) hk
    omega
 refine this 10 z ?_ (by decide)
 have e : (128 : Nat) ^ 10 = 1180591620717411303424 := by decide
 omega
theorem za3 {n : Int} (h1 : -9223372036854775808 ≤ n) (h2 : n ≤ 9223372036854775807) : (intB n).length ≤ 10 := zfn (zda h1 h2)
theorem zd3 (z : Nat) : 1 ≤ (vint z).length := by
 by_cases h : z < 128
 · rw [zej h]; simp
 rw [zdv h]; simp
theorem zus (z : Nat) : bits BinOp.or .u8 ((z : Int) % 256) 128 = ((UInt8.ofNat (z % 128 + 128)).toNat : Int) := by
 have h : ∀ x : BitVec 8, (x ||| 128#8).toNat = x.toNat % 128 + 128 := by decide
 rw [u8_or _ _ (by omega) (by omega) (by decide) (by decide)]
 have h2 := h (BitVec.ofNat 8 (z % 256))
 rw [BitVec.toNat_or] at h2
 simp only [BitVec.toNat_ofNat] at h2
 have e : ((z : Int) % 256).toNat = z % 256 := by omega
 rw [e]
 simp at h2 ⊢
 omega
theorem zug {z : Nat} (_h : z < 128) : IntKind.u8.wrap (z : Int) = ((UInt8.ofNat z).toNat : Int) := by
 rw [IntKind.wrap_u8']
 simp
theorem OwnB.alloc {w : World} {B : Nat} {v : Value} {l : List UInt8} (h : OwnB w B v l) (o : Obj) : (w.alloc o).ownsRow B 5 1 v l.length (u8L l) := World.ownsRow.alloc h o
theorem zph (l : List UInt8) (b : UInt8) : u8L (l ++ [b]) = u8L l ++ [.int .u8 (b.toNat : Int)] := by simp [u8L]
theorem OwnB.snoc {w : World} {B : Nat} {v : Value} {l : List UInt8} {b : UInt8} (h : w.ownsRow B 5 1 v (l.length + 1) (u8L l ++ [.int .u8 (b.toNat : Int)])) : OwnB w B v (l ++ [b]) := by
 unfold OwnB
 rw [List.length_append, zph]
 exact h
theorem zn8 {w : World} {b : Nat} {x : Value} (h : w.cell? ⟨b, 0, none⟩ = some x) : ∀ (j : Nat) u, [x][j]? = some u → w.cell? ((⟨b, 0, none⟩ : Addr).add j) = some u := by
 intro j u hj
 match j, hj with
 | 0, hj => simp at hj; subst hj; simpa [Addr.add] using h
theorem zki (n : Int) (w : World) (h1 : -9223372036854775808 ≤ n) (h2 : n ≤ 9223372036854775807) :
  Calls Tryz.prog 198 #[.int .i64 n] w fun e w' => e = .returned (.string (str (intB n))) ∧ Below w.heap.size w w' := by
 obtain ⟨i0, hi, hz0, hz1, hz2⟩ := info_parts Tryz.info_byte
 have hX := zsn n h1 h2
 have hzl := zda h1 h2
 obtain ⟨z0, hz⟩ : ∃ z, zig n = z := ⟨_, rfl⟩
 rw [hz] at hX hzl
 have HZ := hid (show intB n = vint z0 from by rw [intB, hz])
 have hlen := zfn hzl
 clear hz
 go_enter Tryz.func198, Tryz.ntmps198
 go_wp2
 go_loopw [3, 4] (fun s3 s4 wr => ∃ (z : Nat) (l : List UInt8), z < 18446744073709551616 ∧ s3 = .int .u64 (z : Int) ∧ OwnB wr w.heap.size s4 l ∧ Hid (vint z0 = l ++ vint z) ∧ l.length ≤ 10 ∧ Below w.heap.size w wr) (fun s3 _ _ => (intOf s3).toNat)
 case atStart => exact ⟨z0, [], hzl, rfl, zld _ _, hid rfl, by simp, Below.refl _ _⟩
 case round =>
  obtain ⟨z, l, hz, rfl, hown, hv, hl, hb0⟩ := hrel
  have hbs := hb0.size
  by_cases hlt : z < 128
  · have hlt2 : (z : Int) < 128 := by omega
    have hvz := zej hlt
    have hlb := zug hlt
    obtain ⟨b, hbb⟩ : ∃ b, UInt8.ofNat z = b := ⟨_, rfl⟩
    rw [hbb] at hvz hlb
    have HV := hid hvz
    clear hvz hX h1 h2 hbb
    go_wp2_with (at_builtin; refine wpList_append_own _ rfl (.tmp 22) (.tmp 25) 59 rfl w.heap.size 5 i0 _ 1 1 Tryz.underlying59 hi hz0 hz1 hz2 rfl (by decide) _ _ _ rfl (OwnB.alloc hown _) ⟨wr.heap.size, 0, none⟩ 1 1 [.int .u8 (b.toNat : Int)] rfl rfl ?c1 ?c2 ?c3 ?c4 ?c5 ?_)
    case c1 => exact zn8 (by simp)
    case c2 => first | rfl | (intro u hu; simp at hu; subst hu; rfl)
    case c3 => unfold maxLen; omega
    case c4 => omega
    case c5 => first | omega | (simp; omega)
    intro v' w2 hown2 hgrow _
    have hb2 := zb9 (hb0.alloc (by omega) _) (OwnB.alloc hown _) (Nat.le_refl _) hgrow (by simp; omega)
    have hcv := zle (OwnB.snoc hown2)
    clear hgrow hown hown2
    go_wp2
    go_ret
    exact ⟨zbl (by rw [HZ.out, hv.out, HV.out]), hb2⟩
  have hlt2 : ¬ (z : Int) < 128 := by omega
  have hvz := zdv hlt
  have hlb := zus z
  have HV := hid hvz
  have hl9 : l.length ≤ 9 := by
    have := congrArg List.length (hv.out.trans (by rw [hvz]))
    simp at this
    have h5 := zd3 (z / 128)
    omega
  obtain ⟨b, hbb⟩ : ∃ b, UInt8.ofNat (z % 128 + 128) = b := ⟨_, rfl⟩
  rw [hbb] at hlb HV
  clear hvz hX h1 h2 hbb
  go_wp2_with (at_builtin; refine wpList_append_own _ rfl (.tmp 16) (.tmp 20) 59 rfl w.heap.size 5 i0 _ 1 1 Tryz.underlying59 hi hz0 hz1 hz2 rfl (by decide) _ _ _ rfl (OwnB.alloc hown _) ⟨wr.heap.size, 0, none⟩ 1 1 [.int .u8 (b.toNat : Int)] rfl rfl ?c1 ?c2 ?c3 ?c4 ?c5 ?_)
  case c2 => first | rfl | (intro u hu; simp at hu; subst hu; rfl)
  case c3 => unfold maxLen; omega
  case c4 => omega
  case c5 => first | omega | (simp; omega)
  intro v' w2 hown2 hgrow _
  have hb2 := zb9 (hb0.alloc (by omega) _) (OwnB.alloc hown _) (Nat.le_refl _) hgrow (by simp; omega)
  have hown3 := OwnB.snoc hown2
  clear hgrow hown hown2 hlb
  go_wp2
  go_roundw
  case rel => exact ⟨z / 128, l ++ [b], by omega, by simp, hown3, by rw [Hid, hv.out, HV.out]; simp, by simp; omega, hb2⟩
  case measure => simp [intOf]; omega
theorem zas (a b : List UInt8) : str a ++ str b = str (a ++ b) := by
 apply ByteArray.ext
 simp [str, ByteArray.data_append]
theorem zcz (a : List UInt8) (s : ByteArray) : str a ++ s = str (a ++ s.data.toList) := by
 apply ByteArray.ext
 simp [str, ByteArray.data_append]
theorem zar (l : List UInt8) : (str l).size = l.length := by
 show l.toArray.size = _
 simp
def textE (s : ByteArray) : Int := if 65535 < s.size then 13 else 0
theorem zoc (s : ByteArray) (w : World) (hs : s.size ≤ 9223372036854775807) :
   Calls Tryz.prog 199 #[.string s] w fun e w' => (e = .returned (.tuple #[.string (str (textB s)), .int .i64 (textE s)])) ∧ Below w.heap.size w w' := by
 by_cases h : 65535 < s.size
 · have h2 : (65535 : Int) < (s.size : Int) := by omega
   rw [textE, if_pos h, textB, if_pos h]
   go_enter Tryz.func199, Tryz.ntmps199
   go_wp2
   go_ret2
   exact ⟨rfl, bel⟩
 have h2 : ¬ (65535 : Int) < (s.size : Int) := by omega
 rw [textE, if_neg h, textB, if_neg h]
 go_enter Tryz.func199, Tryz.ntmps199
 go_wp2_with fail
 refine (zki s.size _ (by omega) (by omega)).mono ?_
 rintro e w1 ⟨rfl, hb⟩
 have hl := za3 (n := s.size) (by omega) (by omega)
 have hx : str (intB s.size ++ s.data.toList) = str (intB s.size) ++ s := (zcz _ _).symm
 have HX := hid hx
 have hxl : ((str (intB s.size)).size : Int) ≤ 10 := by rw [zar]; omega
 generalize str (intB s.size) = x at hxl HX ⊢
 have hsum : ¬ 9223372036854775807 < (x.size : Int) + (s.size : Int) := by omega
 clear hl hx
 go_wp2
 go_ret2
 exact ⟨(by rw [HX.out]; rfl), bel⟩
theorem zdh (n : Int) (w : World) :
  Calls Tryz.prog 216 #[.int .i64 n] w fun e w' => e = .returned (.string (str [UInt8.ofNat (n % 256).toNat])) ∧ Below w.heap.size w w' := by
 have e : IntKind.u8.wrap n = ((UInt8.ofNat (n % 256).toNat).toNat : Int) := by
  rw [IntKind.wrap_u8']
  simp
  omega
 have hcv : ∀ W : World, (convert 59 9 (.slice (some ⟨W.heap.size, 0, none⟩) 1 1)).run Tryz.prog (W.alloc (.cells #[.int .u8 ((UInt8.ofNat (n % 256).toNat).toNat : Int)] 5)) = .ok (.string (str [UInt8.ofNat (n % 256).toNat])) (W.alloc (.cells #[.int .u8 ((UInt8.ofNat (n % 256).toNat).toNat : Int)] 5)) := fun W => by
  rw [← zdl]
  refine run_convert_bytes_arg _ 59 5 Tryz.underlying59 Tryz.underlying5 W.heap.size 0 1 1 _ (by simp) (fun i hi => ?_) 9 Tryz.underlying9
  have : i = 0 := by omega
  subst this
  simp
 generalize (UInt8.ofNat (n % 256).toNat) = b at e hcv
 go_enter Tryz.func216, Tryz.ntmps216
 go_wp2
 go_ret
 exact ⟨rfl, bel⟩
theorem zb4 (n : Int) (w : World) (h1 : -9223372036854775808 ≤ n) (h2 : n ≤ 9223372036854775807) :
  Calls Tryz.prog 112 #[.int .i64 n] w fun e w' => e = .returned (.string (str (intB n))) ∧ Below w.heap.size w w' := by
 have hzl := zda h1 h2
 have hX : (n < 0 → bits BinOp.xor IntKind.u64 IntKind.u64.max (IntKind.u64.wrap (IntKind.u64.wrap n * 2)) = ((zig n : Nat) : Int)) ∧ (0 ≤ n → IntKind.u64.wrap (IntKind.u64.wrap n * 2) = ((zig n : Nat) : Int)) := ⟨fun h => zm4 n h h1, fun h => zhz h h2⟩
 obtain ⟨z0, hz⟩ : ∃ z, zig n = z := ⟨_, rfl⟩
 rw [hz] at hX hzl
 have HZ := hid (show intB n = vint z0 from by rw [intB, hz])
 have HX := hid hX
 clear hz hX
 have key : (n < 0 ∧ bits BinOp.xor IntKind.u64 IntKind.u64.max (IntKind.u64.wrap (IntKind.u64.wrap n * 2)) = (z0 : Int)) ∨ (¬ n < 0 ∧ n * 2 = (z0 : Int)) := by
  by_cases h : n < 0
  · exact .inl ⟨h, HX.out.1 h⟩
  refine .inr ⟨h, ?_⟩
  have := HX.out.2 (by omega)
  simp only [IntKind.wrap_u64] at this
  omega
 rcases key with ⟨hn, hx⟩ | ⟨hn, hx⟩
 all_goals
  clear HX
  go_enter Tryz.func112, Tryz.ntmps112
  go_wp2
  go_loopw [3, 4] (fun s3 s4 wr => ∃ (z : Nat) (l : List UInt8), z < 18446744073709551616 ∧ s3 = .int .u64 (z : Int) ∧ s4 = .string (str l) ∧ Hid (vint z0 = l ++ vint z) ∧ l.length ≤ 10 ∧ Below w.heap.size w wr) (fun s3 _ _ => (intOf s3).toNat)
  case atStart => exact ⟨z0, [], hzl, (by first | rfl | rw [hx]), rfl, hid rfl, by simp, Below.refl _ _⟩
  case round =>
   obtain ⟨z, l, hz, rfl, rfl, hv, hl, hb0⟩ := hrel
   have hxl : ((str l).size : Int) ≤ 10 := by rw [zar]; omega
   have hfin := fun b : UInt8 => zas l [b]
   have hone : ∀ b : UInt8, (str [b]).size = 1 := fun b => zar _
   clear hx
   by_cases hlt : z < 128
   · have hlt2 : (z : Int) < 128 := by omega
     have HV := hid (zej hlt)
     have hob : UInt8.ofNat ((z : Int) % 256).toNat = UInt8.ofNat z := by congr 1; omega
     have OC := fun W => zdh (z : Int) W
     rw [hob] at OC
     obtain ⟨b, hbb⟩ : ∃ b, UInt8.ofNat z = b := ⟨_, rfl⟩
     rw [hbb] at OC HV
     have FN := hid (hfin b)
     have h1b := hone b
     generalize str l = x at hxl FN ⊢
     generalize hy : str [b] = y at h1b FN OC ⊢
     have hsum : ¬ 9223372036854775807 < (x.size : Int) + (y.size : Int) := by omega
     have OC := hid OC
     clear hob hbb hfin hone hy h1b
     go_wp2_with fail
     refine (OC.out _).mono ?_
     rintro e w1 ⟨rfl, hb⟩
     go_wp2
     go_ret
     exact ⟨zbl (by rw [HZ.out, hv.out, HV.out, FN.out]), bel⟩
   have hlt2 : ¬ (z : Int) < 128 := by omega
   have HV := hid (zdv hlt)
   have hl9 : l.length ≤ 9 := by
     have h8 := congrArg List.length (hv.out.trans (by rw [HV.out]))
     have h5 := zd3 (z / 128)
     have h6 := zfn hzl
     simp at h8
     omega
   have hob : UInt8.ofNat (((z : Int) % 128 + 128) % 256).toNat = UInt8.ofNat (z % 128 + 128) := by congr 1; omega
   have OC := fun W => zdh ((z : Int) % 128 + 128) W
   rw [hob] at OC
   obtain ⟨b, hbb⟩ : ∃ b, UInt8.ofNat (z % 128 + 128) = b := ⟨_, rfl⟩
   rw [hbb] at OC HV
   have FN := hid (hfin b)
   have h1b := hone b
   generalize str l = x at hxl FN ⊢
   generalize hy : str [b] = y at h1b FN OC ⊢
   have hsum : ¬ 9223372036854775807 < (x.size : Int) + (y.size : Int) := by omega
   have OC := hid OC
   clear hob hbb hfin hone hy h1b
   go_wp2_with fail
   refine (OC.out _).mono ?_
   rintro e w1 ⟨rfl, hb⟩
   go_wp2
   go_roundw
   case rel => exact ⟨z / 128, l ++ [b], by omega, by simp, by rw [FN.out], by rw [Hid, hv.out, HV.out]; simp, by simp; omega, bel⟩
   case measure => simp [intOf]; omega
def Wtr (B b : Nat) (l : List UInt8) (w : World) : Prop := Lib.IsBuilderF 230 5 B b (Lib.byteCells l) w
def KeptW (B b : Nat) (w w' : World) : Prop := Below B w w' ∧ Lib.OthersKept 5 (some b) w w'
theorem KeptW.refl (B b : Nat) (w : World) : KeptW B b w w := ⟨Below.refl _ _, Lib.OthersKept.refl _ _ _⟩
theorem KeptW.trans {B b : Nat} {w w1 w2 : World} (h : KeptW B b w w1) (g : KeptW B b w1 w2) : KeptW B b w w2 := ⟨h.1.trans g.1, h.2.trans g.2⟩
theorem KeptW.alloc {B b : Nat} {a w : World} (h : KeptW B b a w) (hB : B ≤ w.heap.size) (o : Obj) : KeptW B b a (w.alloc o) := ⟨h.1.alloc hB o, h.2.alloc o⟩
theorem KeptW.drew {B b : Nat} {a w : World} (h : KeptW B b a w) : KeptW B b a w.drew := ⟨h.1.drew, h.2⟩
theorem KeptW.run {B b : Nat} {a w w' : World} (h : KeptW B b a w) (hB : B ≤ w.heap.size) (hb : Below w.heap.size w w') : KeptW B b a w' :=
 ⟨h.1.trans (hb.mono hB), h.2.trans fun k _ hk _ _ => (hb.block k (lt_of_block hk)).trans hk⟩
theorem KeptW.row {B b : Nat} {w w' : World} (h : KeptW B b w w') {k T : Nat} {cs : Array Value} (hr : RowAt w k T cs) (hk : k ≠ b) (hT : T ≠ 5) : RowAt w' k T cs :=
 h.2 k _ hr (fun e => hk (Option.some.inj e)) (fun c fz e => hT (by cases e; rfl))
theorem Wtr.run {B b : Nat} {l : List UInt8} {w w' : World} (h : Wtr B b l w) (hb : Below w.heap.size w w') : Wtr B b l w' := by
 have hg : w.grownBy w' none := ⟨hb.os, hb.tape, hb.output, hb.size, fun k hk _ => hb.block k hk⟩
 rcases h with ⟨hB, v, hbk, hown, hne⟩ | ⟨hB, v, hbk, hown, hne⟩
 · exact .inl ⟨hB, v, (hb.block b (lt_of_block hbk)).trans hbk, hown.kept hg (by cases hv : v.ownBlock <;> simp), hne⟩
 exact .inr ⟨hB, v, (hb.block b (lt_of_block hbk)).trans hbk, hown.kept hg (by cases hv : v.ownBlock <;> simp), hne⟩
theorem Wtr.alloc {B b : Nat} {l : List UInt8} {w : World} (h : Wtr B b l w) (o : Obj) : Wtr B b l (w.alloc o) := h.run ((Below.refl _ _).alloc (Nat.le_refl _) o)
theorem Wtr.lt {B b : Nat} {l : List UInt8} {w : World} (h : Wtr B b l w) : B ≤ b ∧ b < w.heap.size := by
 rcases h with ⟨hB, v, hbk, _⟩ | ⟨hB, v, hbk, _⟩
 · exact ⟨hB, lt_of_block hbk⟩
 exact ⟨hB, lt_of_block hbk⟩
theorem Wtr.tag {B b : Nat} {l : List UInt8} {w : World} (h : Wtr B b l w) : ∃ cs fz, w.heap[b]? = some (.cells cs 230 fz) := by
 rcases h with ⟨_, v, hbk, _⟩ | ⟨_, v, hbk, _⟩
 · exact ⟨_, _, hbk⟩
 exact ⟨_, _, hbk⟩
theorem Wtr.far {B b : Nat} {l : List UInt8} {w : World} (h : Wtr B b l w) {k T : Nat} {cs : Array Value} (hr : RowAt w k T cs) (hT : T ≠ 230) : k ≠ b := by
 rintro rfl
 obtain ⟨c, fz, hc⟩ := h.tag
 unfold RowAt at hr
 rw [hr] at hc
 cases hc
 exact hT rfl
theorem Tryz.wtr_size : (Tryz.prog.info? 228).map (·.size) = some 2 := by kernel_rfl
theorem Tryz.wtr_lies : liesAt Tryz.prog Tryz.prog.depth 230 (2 / Tryz.prog.cellsOf 230) 0 228 1 = true := by kernel_rfl
theorem Tryz.byte_cells : Tryz.prog.cellsOf 5 = 1 := by kernel_rfl
theorem zw3 (b : Nat) (w : World) (h0 : w.cell? ⟨b, 0, none⟩ = some (.pointer none)) (hsh : w.shape? b = some (230, 2)) (hfz : w.frozen? ⟨b, 0, none⟩ = false) :
  Calls Tryz.prog 276 #[.pointer (some ⟨b, 0, none⟩)] w fun e w' => e = .returned (.tuple #[]) ∧ w' = w.setCell ⟨b, 0, none⟩ (.pointer (some ⟨b, 0, none⟩)) := by
 obtain ⟨j, hj, hjs⟩ := Option.map_eq_some_iff.1 Tryz.wtr_size
 have q1 := Lib.run_to_unsafe (P := Tryz.prog) w ⟨b, 0, none⟩ Tryz.underlying226 Tryz.underlying390 hj (by rw [hjs]; decide) hsh (Nat.zero_lt_succ 1)
 have q3 := Lib.run_from_unsafe (P := Tryz.prog) w ⟨b, 0, none⟩ Tryz.underlying390 Tryz.underlying226 hj hsh Tryz.wtr_lies
 have q2 : (callFunc 320 #[.pointer (some ⟨b, 0, none⟩)]).run Tryz.prog w = .ok (.value (.pointer (some ⟨b, 0, none⟩))) w := by
  rw [run_callFunc_extern Tryz.func320 (by kernel_rfl) (by kernel_rfl) (by kernel_rfl) (e := Extern.AbiNoEscape.same) (by kernel_rfl)]
  rw [Lib.run_noEscape]
  rfl
 go_enter Tryz.func276, Tryz.ntmps276
 go_wp2
 go_end0
 exact ⟨rfl, rfl⟩
theorem zsy (b : Nat) (w : World) (h0 : w.cell? ⟨b, 0, none⟩ = some (.pointer (some ⟨b, 0, none⟩))) :
  Calls Tryz.prog 276 #[.pointer (some ⟨b, 0, none⟩)] w fun e w' => e = .returned (.tuple #[]) ∧ w' = w := by
 obtain ⟨j, hj, _⟩ := Option.map_eq_some_iff.1 Tryz.wtr_size
 have q := Lib.run_neq_ptr_same w ⟨b, 0, none⟩ Tryz.underlying226 hj
 go_enter Tryz.func276, Tryz.ntmps276
 go_wp2
 go_end0
 exact ⟨rfl, rfl⟩
theorem zw7 (B b : Nat) (bs : List Value) (w : World) (h : Lib.IsBuilderF 230 5 B b bs w) :
   Calls Tryz.prog 276 #[.pointer (some ⟨b, 0, none⟩)] w fun e w' => e = .returned (.tuple #[]) ∧ Lib.BuilderAtF 230 5 B b (.pointer (some ⟨b, 0, none⟩)) bs w' ∧ KeptW B b w w' := by
 rcases h with h | h
 · refine (zw3 b w h.cell0 h.shape h.frozen0).mono ?_
   rintro e w' ⟨rfl, rfl⟩
   exact ⟨rfl, h.used _, (Below.refl B w).setCell (p := ⟨b, 0, none⟩) h.1 _, (Lib.OthersKept.refl _ _ w).setCell ⟨b, 0, none⟩ rfl _⟩
 refine (zsy b w h.cell0).mono ?_
 rintro e w' ⟨rfl, rfl⟩
 exact ⟨rfl, h, KeptW.refl _ _ _⟩
theorem zjo (B b : Nat) (l : List UInt8) (s : ByteArray) (w : World) (h : Wtr B b l w) (hlen : l.length + s.size ≤ 140737488355328) (hBw : B ≤ w.heap.size) :
   Calls Tryz.prog 197 #[.pointer (some ⟨b, 0, none⟩), .string s] w fun e w' => e = .returned (.tuple #[.int .i64 s.size, .nilIface]) ∧ Wtr B b (l ++ s.data.toList) w' ∧ KeptW B b w w' := by
 obtain ⟨i0, hi, hz0, hz1, hz2⟩ := info_parts Tryz.info_byte
 have C := zw7 B b (Lib.byteCells l) w h
 have HC := hid C
 have hlen : (Lib.byteCells l).length + s.size ≤ 140737488355328 := by rw [Lib.byteCells_length]; exact hlen
 clear C
 go_enter Tryz.func197, Tryz.ntmps197
 go_wp2_with fail
 refine HC.out.mono ?_
 rintro e w1 ⟨rfl, h1, hb1⟩
 obtain ⟨hB, v, hbk, hown, hne⟩ := h1
 have c0 : w1.cell? ⟨b, 0, none⟩ = some (.pointer (some ⟨b, 0, none⟩)) := by rw [Lib.cell_of_heap hbk]; rfl
 have c1 : w1.cell? ⟨b, 1, none⟩ = some v := by rw [Lib.cell_of_heap hbk]; rfl
 have hb1s := hb1.1.size
 go_wp2_with (at_builtin; refine Lib.wpList_append_own_stringF _ rfl _ _ 59 9 rfl B 5 i0 Tryz.underlying59 Tryz.underlying9 hi hz0 hz1 hz2 _ _ _ rfl hown s rfl ?c3 ?c4 ?c5 ?_)
 case c3 => unfold maxLen; omega
 case c4 => omega
 case c5 => omega
 intro v' w2 hown' hgrow _
 have hlt : b < w1.heap.size := lt_of_block hbk
 have hb2 : w2.heap[b]? = some (.cells #[.pointer (some ⟨b, 0, none⟩), v] 230 (0, 0)) := by
   rw [hgrow.block b hlt (fun e => hne e.symm)]
   exact hbk
 have d0 : w2.cell? ⟨b, 0, none⟩ = some (.pointer (some ⟨b, 0, none⟩)) := by rw [Lib.cell_of_heap hb2]; rfl
 have d1 : w2.cell? ⟨b, 1, none⟩ = some v := by rw [Lib.cell_of_heap hb2]; rfl
 have f1 : w2.frozen? ⟨b, 1, none⟩ = false := Lib.frozen_of_heap hb2 1
 obtain ⟨ao, n', cap, rfl⟩ : ∃ ao n' cap, v' = .slice ao n' cap := by
   rcases hown'.2 with ⟨hv, _⟩ | ⟨g, cap, cur, fz, hv, _⟩
   · exact ⟨_, _, _, hv⟩
   exact ⟨_, _, _, hv⟩
 go_wp2
 go_ret2
 refine ⟨rfl, .inr ?_, ?_, (hb1.2.grown hgrow (Lib.ownsRowF_kind hown)).setCell ⟨b, 1, none⟩ rfl _⟩
 · rw [Lib.byteCells_append, ← Lib.strCells_eq]
   exact Lib.BuilderAtF.put (T := 230) (e := 5) hB hb2 (bs' := Lib.byteCells l ++ Lib.strCells s) (by rw [List.length_append, Lib.strCells_length]; exact hown') (by decide)
 exact (hb1.1.grown hgrow (by omega) (fun k hk => (hown.lt k hk).1)).setCell (p := ⟨b, 1, none⟩) hB _
theorem zoo (B b : Nat) (l : List UInt8) (w : World) (h : Wtr B b l w) (h0 : l ≠ []) :
  Calls Tryz.prog 160 #[.pointer (some ⟨b, 0, none⟩)] w fun e w' => e = .returned (.string (str l)) ∧ Below B w w' := by
 obtain ⟨p, hB, v, hbk, hown, hne⟩ : ∃ p, Lib.BuilderAtF 230 5 B b p (Lib.byteCells l) w := by
  rcases h with h | h
  · exact ⟨_, h⟩
  exact ⟨_, h⟩
 have hl0 : l.length ≠ 0 := by simpa using h0
 rw [Lib.byteCells_length] at hown
 obtain ⟨g, cap, cur, fz, rfl, hbg, hg, hfz, hnc, hcm, hcs, htake⟩ : ∃ g cap cur fz, v = .slice (some ⟨g, 0, none⟩) l.length cap ∧ B ≤ g ∧ w.heap[g]? = some (.cells cur 5 fz) ∧ fz.2 ≤ l.length * 1 ∧ l.length ≤ cap ∧ cap ≤ maxLen ∧ cur.size = cap * 1 ∧ cur.toList.take (l.length * 1) = Lib.byteCells l := by
  rcases hown.2 with ⟨_, hz⟩ | ⟨g, cap, cur, fz, hv, r⟩
  · exact absurd hz hl0
  exact ⟨g, cap, cur, fz, hv, r⟩
 have c1 : w.drew.cell? ⟨b, 1, none⟩ = some (.slice (some ⟨g, 0, none⟩) l.length cap) := by
  have : w.drew.heap[b]? = some (.cells #[p, .slice (some ⟨g, 0, none⟩) l.length cap] 230 (0, 0)) := hbk
  rw [Lib.cell_of_heap this]; rfl
 have hSD : (Builtin.unsafeSliceData_ #[59] 331 #[.slice (some ⟨g, 0, none⟩) l.length cap]).run Tryz.prog w.drew = .ok (.pointer (some ⟨g, 0, none⟩)) w.drew :=
  Lib.run_unsafeSliceData_row _ _ _ _ _ _ (by omega)
 have hUS : (Builtin.unsafeString_ #[331, 3] 9 #[.pointer (some ⟨g, 0, none⟩), .int .i64 l.length]).run Tryz.prog w.drew = .ok (.string (str l)) (w.drew.freeze ⟨g, 0, none⟩ l.length) := by
  refine Lib.run_unsafeString_row w.drew 331 3 9 5 Tryz.underlying331 Tryz.byte_cells g cur.size (by have hg' : w.drew.heap[g]? = some (.cells cur 5 fz) := hg; simp [World.shape?, hg']) l h0 (by omega) (by unfold maxLen at hcm; omega) ?_
  intro j x hx
  have := hown.cells (g := g) rfl j (.int .u8 x.toNat) (by simp [Lib.byteCells, hx])
  exact this
 have hb : Below B w (w.drew.freeze ⟨g, 0, none⟩ l.length) := Lib.below_freeze (Below.drew (Below.refl B w)) (p := ⟨g, 0, none⟩) hbg _
 clear hown htake hbk hg h
 go_enter Tryz.func160, Tryz.ntmps160
 go_wp2
 go_region
 all_goals (go_wp2; go_ret; exact ⟨rfl, hb⟩)
def intA (l : List Int) : Array Value := (l.map (Value.int .i64)).toArray
def Ints64 (l : List Int) : Prop := ∀ n ∈ l, -9223372036854775808 ≤ n ∧ n ≤ 9223372036854775807
theorem zb5 (B b g : Nat) (l : List UInt8) (ns : List Int) (w : World) (h : Wtr B b l w) (hg : RowAt w g 3 (intA ns)) (hi : Ints64 ns) (h0 : 0 < ns.length) (hn : ns.length ≤ 100) (hlen : l.length + (intsB ns).length ≤ 140737488355328) (hB : B ≤ w.heap.size) :
  Calls Tryz.prog 85 #[.pointer (some ⟨b, 0, none⟩), .slice (some ⟨g, 0, none⟩) ns.length ns.length] w fun e w' => e = .returned (.tuple #[]) ∧ Wtr B b (l ++ intsB ns) w' ∧ KeptW B b w w' := by
 have HI := hid hi
 have HL := hid hlen
 have h3 : (ns.length : Int) ≤ 100 := by omega
 clear hi hlen
 go_enter Tryz.func85, Tryz.ntmps85
 go_wp2
 go_loopw [5, 8] (fun _ i wr => ∃ k : Nat, k ≤ ns.length ∧ i = .int .i64 k ∧ Hid (Wtr B b (l ++ intsB (ns.take k)) wr ∧ RowAt wr g 3 (intA ns) ∧ KeptW B b w wr)) (fun _ i _ => ns.length - (intOf i).toNat)
 case atStart => exact ⟨0, Nat.zero_le _, rfl, hid ⟨by simpa [intsB] using h, hg, KeptW.refl _ _ _⟩⟩
 case round =>
  obtain ⟨k, hk, rfl, hh⟩ := hrel
  obtain ⟨hw, hr, hkp⟩ := hh.out
  by_cases hlt : k < ns.length
  · have hlt3 : (k : Int) < (ns.length : Int) := by omega
    obtain ⟨x1, x2, x3, x4, x5, x6⟩ := zaa hr
    have hck : wr.cell? ⟨g, k, none⟩ = some (.int .i64 ns[k]) := by rw [x1 k]; simp [intA, List.getElem?_eq_getElem hlt]
    have hbd := HI.out ns[k] (List.getElem_mem hlt)
    have hts : ns.take (k + 1) = ns.take k ++ [ns[k]] := by rw [List.take_succ_eq_append_getElem hlt]
    have hsz : (l ++ intsB (ns.take k)).length + (str (intB ns[k])).size ≤ 140737488355328 := by
     have := HL.out
     have e : ns = ns.take (k + 1) ++ ns.drop (k + 1) := (List.take_append_drop _ _).symm
     rw [e, zdm, hts, zdm] at this
     simp [zcl, zkj] at this
     rw [zar]
     simp
     omega
    have HT := hid hts
    generalize ns[k] = n at hck hbd hsz HT
    obtain ⟨m1, m2⟩ := hbd
    have hBr : B ≤ wr.heap.size := Nat.le_trans hB hkp.1.size
    have C1 := hid (fun W => zki n W m1 m2)
    have C2 := hid (fun (W : World) (hbb : Below wr.heap.size wr W) => zjo B b _ (str (intB n)) W (hw.run hbb) hsz (Nat.le_trans hBr hbb.size))
    have HW := hid (And.intro hw (And.intro hr hkp))
    clear hw hr hkp hts hsz x1 hh
    go_wp2
    go_region_held3 (fun _ => True) (exact trivial) (first | (go_at_call 198; refine (C1.out _).mono ?_; rintro e w1 ⟨rfl, hb1⟩) | (go_at_call 197; refine (C2.out _ bel).mono ?_; rintro e w2 ⟨rfl, hw2, hk2⟩))
    all_goals
     go_wp2
     go_roundw
     case rel =>
      refine ⟨k + 1, by omega, by go_num, hid ⟨?_, ?_, ?_⟩⟩
      · rw [HT.out, zdm, ← List.append_assoc]
        simpa [zcl, zkj, str] using hw2
      · have hq : Below wr.heap.size wr w1 := bel
        exact hk2.row (HW.out.2.1.run hq) (HW.out.1.far HW.out.2.1 (by decide)) (by decide)
      have hq : Below wr.heap.size wr w1 := bel
      exact (HW.out.2.2.run hBr hq).trans hk2
     case measure => simp [intOf]; omega
  obtain rfl : k = ns.length := by omega
  go_wp2
  (first | go_end0 | refine bodyPost_ret (results_none rfl _ _ _) rfl ?_)
  rw [List.take_length] at hw
  exact ⟨rfl, hw, hkp⟩
theorem zce (B b : Nat) (l : List UInt8) (s : ByteArray) (w : World) (h : Wtr B b l w) (hs : s.size ≤ 9223372036854775807) (hlen : l.length + (textB s).length ≤ 140737488355328) (hB : B ≤ w.heap.size) :
  Calls Tryz.prog 86 #[.pointer (some ⟨b, 0, none⟩), .string s] w fun e w' => e = .returned (.tuple #[]) ∧ Wtr B b (l ++ textB s) w' ∧ KeptW B b w w' := by
 have C1 := hid (fun W => zoc s W hs)
 have C2 := hid (fun (W : World) (hbb : Below w.heap.size w W) => zjo B b _ (str (textB s)) W (h.run hbb) (by rw [zar]; exact hlen) (Nat.le_trans hB hbb.size))
 clear hs hlen
 go_enter Tryz.func86, Tryz.ntmps86
 go_wp2_with fail
 refine (C1.out _).mono ?_
 rintro e w1 ⟨rfl, hb1⟩
 go_wp2_with fail
 refine (C2.out _ hb1).mono ?_
 rintro e w2 ⟨rfl, hw2, hk2⟩
 go_wp2
 (first | go_end0 | refine bodyPost_ret (results_none rfl _ _ _) rfl ?_)
 exact ⟨rfl, by simpa [str] using hw2, ((KeptW.refl _ _ _).run hB hb1).trans hk2⟩
def AtP (w : World) (p b : Nat) : Prop := RowAt w p 131 #[.pointer (some ⟨b, 0, none⟩)]
theorem za9 (B b : Nat) (l : List UInt8) (n : Int) (w : World) (h : Wtr B b l w) (hi : -9223372036854775808 ≤ n ∧ n ≤ 9223372036854775807) (hlen : l.length + (intB n).length ≤ 140737488355328) (hB : B ≤ w.heap.size) :
  Calls Tryz.prog 85 #[.pointer (some ⟨b, 0, none⟩), .slice (some ⟨w.heap.size, 0, none⟩) 1 1] (w.alloc (.cells #[.int .i64 n] 3)) fun e w' => e = .returned (.tuple #[]) ∧ Wtr B b (l ++ intB n) w' ∧ KeptW B b w w' := by
 refine (zb5 B b w.heap.size l [n] _ (h.alloc _) (RowAt.new _ _ _) (fun m hm => by simp at hm; subst hm; exact hi) (by simp) (by simp) (by simpa [intsB] using hlen) (by simp; omega)).mono ?_
 rintro e w' ⟨rfl, h1, h2⟩
 exact ⟨rfl, by simpa [intsB] using h1, ((KeptW.refl _ _ _).alloc hB _).trans h2⟩
theorem zdz (B b : Nat) (l : List UInt8) (q : Bool) (w : World) (h : Wtr B b l w) (hlen : l.length + (intB (truthI q)).length ≤ 140737488355328) (hB : B ≤ w.heap.size) :
   Calls Tryz.prog 165 #[.pointer (some ⟨b, 0, none⟩), .bool q] w fun e w' => e = .returned (.tuple #[]) ∧ Wtr B b (l ++ intB (truthI q)) w' ∧ KeptW B b w w' := by
 have C := hid (fun n (e : truthI q = n) (hn : -9223372036854775808 ≤ n ∧ n ≤ 9223372036854775807) => za9 B b l n w h hn (by rw [← e]; exact hlen) hB)
 clear hlen
 cases q with
 | true =>
   go_enter Tryz.func165, Tryz.ntmps165
   go_wp2_with fail
   refine (C.out 1 rfl (by omega)).mono ?_
   rintro e w1 ⟨rfl, hw1, hk1⟩
   go_wp2
   (first | go_end0 | refine bodyPost_ret (results_none rfl _ _ _) rfl ?_)
   exact ⟨rfl, hw1, hk1⟩
 | false =>
   go_enter Tryz.func165, Tryz.ntmps165
   go_wp2_with fail
   refine (C.out 0 rfl (by omega)).mono ?_
   rintro e w1 ⟨rfl, hw1, hk1⟩
   go_wp2
   (first | go_end0 | refine bodyPost_ret (results_none rfl _ _ _) rfl ?_)
   exact ⟨rfl, hw1, hk1⟩
end Go.Proofs.YtjeigphhepngmaaGreatDoor
