/-
  Slices: what they hold, and what the call itself makes.
  Slices of elements of whatever type: what they hold, given the cells of one element.
  Rows that a call owns: what leaves them alone.
-/
import Derived.Test.YtjeigphhepngmaaGreatDoorProg
import Derived.Test.YtjeigphhepngmaaGreatDoorBas
import Derived.Deep.AppendLies
namespace Go.Proofs.YtjeigphhepngmaaGreatDoor
open Go.RowKit

/-- A slice value of n elements of S cells each holds the cells cs. -/
def SeqAt (w : World) (S : Nat) (v : Value) (n : Nat) (cs : Nat → Option Value) : Prop :=
  (n = 0 ∧ ∃ a cap, v = .slice a 0 cap) ∨ (0 < n ∧ n ≤ 140737488351232 ∧ ∃ b off cap, v = .slice (some ⟨b, off, none⟩) n cap ∧ b < w.heap.size ∧ ∀ j, j < n * S → w.cell? ⟨b, off + j, none⟩ = cs j)

theorem SeqAt.below {w w' : World} {S n : Nat} {v : Value} {cs : Nat → Option Value} (h : SeqAt w S v n cs) (hb : Below w.heap.size w w') : SeqAt w' S v n cs := by
  rcases h with h | ⟨h0, h1, b, off, cap, rfl, hlt, hc⟩
  · exact .inl h
  · exact .inr ⟨h0, h1, b, off, cap, rfl, Nat.lt_of_lt_of_le hlt hb.size, fun j hj => (hb.cell (p := ⟨b, off + j, none⟩) hlt).trans (hc j hj)⟩

theorem take_succ_some {α : Type} {l : List α} {k : Nat} {d : α} (h : l[k]? = some d) : l.take (k + 1) = l.take k ++ [d] := by
  rw [List.take_add_one, h]
  rfl

theorem own_seq {w : World} {base T S n : Nat} {v : Value} {xs : List Value} {cs : Nat → Option Value} (h : w.ownsRow base T S v n xs) (hn : n ≤ 140737488351232) (hx : ∀ j : Nat, xs[j]? = cs j) : SeqAt w S v n cs := by
  rcases h.2 with ⟨rfl, rfl⟩ | ⟨g, cap, cur, rfl, hb, hg, hnc, hcm, hcs, htake⟩
  · exact .inl ⟨rfl, _, _, rfl⟩
  · by_cases h0 : n = 0
    · subst h0
      exact .inl ⟨rfl, _, _, rfl⟩
    · refine .inr ⟨by omega, hn, g, 0, cap, rfl, lt_of_block hg, fun j hj => ?_⟩
      rw [Nat.zero_add, h.cellAt j hj, hx]

theorem below_grown {B : Nat} {a w w' : World} {v : Value} {base T S n : Nat} {xs : List Value} (h : Below B a w) (hown : w.ownsRow base T S v n xs) (hB : B ≤ base) (hg : w.grownBy w' v.ownBlock) (hs : B ≤ w.heap.size) : Below B a w' := by
  refine h.trans ⟨hg.os, hg.tape, hg.output, hg.size, fun k hk => hg.block k (by omega) (fun e => ?_)⟩
  have := (hown.lt k e.symm).1
  omega

/-- A slice value holds a list of texts. -/
def strsC (l : List ByteArray) (j : Nat) : Option Value := (l[j]?).map Value.string
def StrsAt (w : World) (v : Value) (l : List ByteArray) : Prop := SeqAt w 1 v l.length (strsC l)

/-- The cell of one text of a list. -/
theorem str_cell {w : World} {b off : Nat} {l : List ByteArray} (hc : ∀ j, j < l.length * 1 → w.cell? ⟨b, off + j, none⟩ = strsC l j) (k : Nat) (hk : k < l.length) :
    ∃ s, l[k]? = some s ∧ w.cell? ⟨b, off + k, none⟩ = some (.string s) := by
  refine ⟨l[k], List.getElem?_eq_getElem hk, ?_⟩
  rw [hc k (by omega), strsC, List.getElem?_eq_getElem hk]
  rfl

/-- Some bytes that the call itself holds in a slice. -/
def u8L (l : List UInt8) : List Value := l.map fun b => Value.int .u8 (b.toNat : Int)
def OwnB (w : World) (B : Nat) (v : Value) (l : List UInt8) : Prop := w.ownsRow B 5 1 v l.length (u8L l)

theorem u8L_length (l : List UInt8) : (u8L l).length = l.length := by simp [u8L]

theorem ownB_nil (w : World) (B : Nat) : OwnB w B (.slice none 0 0) [] := World.ownsRow_nil _ _ _ _

theorem OwnB.parts {w : World} {B : Nat} {v : Value} {l : List UInt8} (h : OwnB w B v l) (h0 : 0 < l.length) : ∃ g cap, v = .slice (some ⟨g, 0, none⟩) l.length cap ∧ B ≤ g ∧ g < w.heap.size ∧ l.length ≤ cap ∧
    (∀ i (hi : i < l.length), w.cell? ⟨g, i, none⟩ = some (.int .u8 (l[i].toNat : Int))) ∧ (∀ i, w.frozen? ⟨g, i, none⟩ = false) := by
  rcases h.2 with ⟨rfl, hn⟩ | ⟨g, cap, cur, rfl, hb, hg, hnc, hcm, hcs, htake⟩
  · omega
  · refine ⟨g, cap, rfl, hb, lt_of_block hg, hnc, fun i hi => ?_, fun i => frozen_of_row w g i _ _ hg⟩
    rw [cell_of_row w g i _ _ _ hg]
    have e : (u8L l)[i]? = some (.int .u8 (l[i].toNat : Int)) := by simp [u8L, List.getElem?_eq_getElem hi]
    rw [← htake, List.getElem?_take, if_pos (by omega)] at e
    simpa using e

theorem OwnB.shape {w : World} {B : Nat} {v : Value} {l : List UInt8} (h : OwnB w B v l) : ∃ a cap, v = .slice a l.length cap := by
  rcases h.2 with ⟨rfl, hn⟩ | ⟨g, cap, cur, rfl, _⟩
  · exact ⟨none, 0, by rw [hn]⟩
  · exact ⟨_, _, rfl⟩

theorem OwnB.set {w : World} {B g cap : Nat} {l : List UInt8} (h : OwnB w B (.slice (some ⟨g, 0, none⟩) l.length cap) l) (i : Nat) (x : UInt8) : OwnB (w.setCell ⟨g, i, none⟩ (.int .u8 (x.toNat : Int))) B (.slice (some ⟨g, 0, none⟩) l.length cap) (l.set i x) := by
  rcases h.2 with ⟨e, _⟩ | ⟨g', cap', cur, e, hb, hg, hnc, hcm, hcs, htake⟩
  · cases e
  · cases e
    refine ⟨by simp [u8L], .inr ⟨g, cap, cur.setIfInBounds i (.int .u8 (x.toNat : Int)), by simp, hb, heap_setCell_same w g i _ _ _ hg, by simp; exact hnc, hcm, by simp [hcs], ?_⟩⟩
    have e2 : u8L (l.set i x) = (u8L l).set i (.int .u8 (x.toNat : Int)) := by simp [u8L, List.map_set]
    rw [e2, ← htake, List.length_set, Array.toList_setIfInBounds, List.take_set]

theorem OwnB.drewN {w : World} {B : Nat} {v : Value} {l : List UInt8} (h : OwnB w B v l) (n : Nat) : OwnB (w.drewN n) B v l := h
theorem OwnB.drew {w : World} {B : Nat} {v : Value} {l : List UInt8} (h : OwnB w B v l) : OwnB w.drew B v l := h

theorem Tryz.info_byte : (Tryz.prog.info? 5).map (fun i => (i.zero, i.size, i.bytes)) = some (some (.int .u8 0), 1, 1) := by kernel_rfl

theorem strOfNums_L (l : List UInt8) : strOfNums (l.map fun b => (b.toNat : Int)) = str l := by
  simp [strOfNums, str, Function.comp_def]

theorem Tryz.conv_nil (w : World) : (convert 59 9 (.slice none 0 0)).run Tryz.prog w = .ok (.string (str [])) w := by kernel_rfl
theorem conv_own {w : World} {B : Nat} {v : Value} {l : List UInt8} (h : OwnB w B v l) : (convert 59 9 v).run Tryz.prog w = .ok (.string (str l)) w := by
  by_cases h0 : 0 < l.length
  · obtain ⟨g, cap, rfl, _, _, _, hc, _⟩ := h.parts h0
    rw [← strOfNums_L]
    refine run_convert_bytes_arg w 59 5 Tryz.underlying59 Tryz.underlying5 g 0 l.length cap _ (by simp) (fun i hi => ?_) 9 Tryz.underlying9
    rw [Nat.zero_add, hc i hi]
    simp [List.getElem?_map, List.getElem?_eq_getElem hi]
  · have hl : l = [] := List.eq_nil_of_length_eq_zero (by omega)
    subst hl
    rcases h.2 with ⟨rfl, _⟩ | ⟨g, cap, cur, rfl, _⟩
    · exact Tryz.conv_nil w
    · rw [← strOfNums_L]
      exact run_convert_bytes_arg w 59 5 Tryz.underlying59 Tryz.underlying5 g 0 0 cap [] rfl (fun i hi => by omega) 9 Tryz.underlying9

end Go.Proofs.YtjeigphhepngmaaGreatDoor

namespace Go.Proofs.YtjeigphhepngmaaGreatDoor
open Go.RowKit

section
variable {α : Type} {S : Nat} {f : α → Array Value}
/-- The cells of a list of elements, in a row. -/
def genL (f : α → Array Value) (l : List α) : List Value := l.flatMap fun x => (f x).toList
def genC (S : Nat) (f : α → Array Value) (l : List α) (j : Nat) : Option Value := (l[j / S]?).bind fun d => (f d)[j % S]?
/-- A slice value holds a list of elements. -/
def ListAt (S : Nat) (f : α → Array Value) (w : World) (v : Value) (l : List α) : Prop := SeqAt w S v l.length (genC S f l)

theorem genL_nil : genL f [] = [] := rfl
theorem genL_cons (x : α) (l : List α) : genL f (x :: l) = (f x).toList ++ genL f l := by simp [genL]
theorem genL_append (a b : List α) : genL f (a ++ b) = genL f a ++ genL f b := by simp [genL]
theorem genL_snoc (a : List α) (x : α) : genL f (a ++ [x]) = genL f a ++ (f x).toList := by simp [genL]
theorem genL_length (hf : ∀ x, (f x).size = S) (l : List α) : (genL f l).length = l.length * S := by
  induction l with
  | nil => simp [genL]
  | cons a l ih => rw [genL_cons, List.length_append, ih, Array.length_toList, hf, List.length_cons, Nat.succ_mul, Nat.add_comm]
theorem genL_get (hS : 0 < S) (hf : ∀ x, (f x).size = S) (l : List α) (j : Nat) : (genL f l)[j]? = genC S f l j := by
  induction l generalizing j with
  | nil => simp [genL, genC]
  | cons d l ih =>
    have h7 : (f d).toList.length = S := by rw [Array.length_toList, hf]
    rw [genL_cons]
    by_cases hj : j < S
    · rw [List.getElem?_append_left (by omega), genC, Nat.div_eq_of_lt hj, Nat.mod_eq_of_lt hj]
      simp
    · have h1 : j / S = (j - S) / S + 1 := by rw [Nat.div_eq_sub_div hS (by omega)]
      have h2 : j % S = (j - S) % S := by rw [Nat.mod_eq_sub_mod (by omega)]
      rw [List.getElem?_append_right (by omega), h7, ih, genC, genC, h1, h2]
      simp
theorem genC_at (hS : 0 < S) (l : List α) (k : Nat) (hk : k < l.length) (i : Nat) (hi : i < S) : genC S f l (k * S + i) = (f l[k])[i]? := by
  have h1 : (k * S + i) / S = k := by rw [Nat.mul_comm, Nat.mul_add_div hS, Nat.div_eq_of_lt hi]; rfl
  have h2 : (k * S + i) % S = i := by rw [Nat.mul_comm, Nat.mul_add_mod, Nat.mod_eq_of_lt hi]
  unfold genC
  rw [h1, h2, List.getElem?_eq_getElem hk]
  rfl
/-- A cell of an element of a list. -/
theorem gen_cell {w : World} {b off : Nat} {l : List α} (hS : 0 < S) (hc : ∀ j, j < l.length * S → w.cell? ⟨b, off + j, none⟩ = genC S f l j) (k : Nat) (hk : k < l.length) (i : Nat) (hi : i < S) :
    w.cell? ⟨b, off + k * S + i, none⟩ = (f l[k])[i]? := by
  have : k * S + i < l.length * S := by
    have := Nat.mul_le_mul_right S (show k + 1 ≤ l.length from hk)
    rw [Nat.succ_mul] at this
    omega
  rw [Nat.add_assoc, hc _ this, genC_at hS l k hk i hi]
theorem own_list {w : World} {base T : Nat} {v : Value} {l : List α} (hS : 0 < S) (hf : ∀ x, (f x).size = S) (h : w.ownsRow base T S v l.length (genL f l)) (hn : l.length ≤ 140737488351232) : ListAt S f w v l := own_seq h hn (genL_get hS hf l)
theorem ListAt.run {w w' : World} {v : Value} {l : List α} (h : ListAt S f w v l) (hb : Below w.heap.size w w') : ListAt S f w' v l := SeqAt.below h hb
theorem ListAt.alloc {w : World} {v : Value} {l : List α} (h : ListAt S f w v l) (o : Obj) : ListAt S f (w.alloc o) v l := h.run ((Below.refl _ _).alloc (Nat.le_refl _) o)
theorem ListAt.drew {w : World} {v : Value} {l : List α} (h : ListAt S f w v l) : ListAt S f w.drew v l := h
theorem ListAt.shape {w : World} {v : Value} {l : List α} (h : ListAt S f w v l) : ∃ a cap, v = .slice a l.length cap := by
  rcases h with ⟨h0, a, cap, rfl⟩ | ⟨_, _, b, off, cap, rfl, _⟩
  · exact ⟨a, cap, by rw [h0]⟩
  · exact ⟨_, _, rfl⟩
theorem ListAt.few {w : World} {v : Value} {l : List α} (h : ListAt S f w v l) : l.length ≤ 140737488351232 := by
  rcases h with ⟨h0, _⟩ | ⟨_, h1, _⟩ <;> omega
/-- What an append reads: the element's cells, out of a block of their own. -/
theorem gen_news {w : World} {b : Nat} {T : Nat} {cs : Array Value} (h : RowAt w b T cs) : ∀ (j : Nat) u, cs.toList[j]? = some u → w.cell? ((⟨b, 0, none⟩ : Addr).add j) = some u := by
  intro j u hj
  have hadd : (⟨b, 0, none⟩ : Addr).add j = ⟨b, j, none⟩ := by unfold Addr.add; split <;> simp_all
  rw [hadd, (row_facts h).1 j]
  simpa using hj
/-- What an append of a whole list reads. -/
theorem list_news {w : World} {b off : Nat} {l : List α} (hS : 0 < S) (hf : ∀ x, (f x).size = S) (hc : ∀ j, j < l.length * S → w.cell? ⟨b, off + j, none⟩ = genC S f l j) : ∀ (j : Nat) u, (genL f l)[j]? = some u → w.cell? ((⟨b, off, none⟩ : Addr).add j) = some u := by
  intro j u hj
  have hjn : j < l.length * S := by
    have := (List.getElem?_eq_some_iff.1 hj).1
    rw [genL_length hf] at this
    exact this
  rw [Addr.add_lit, hc j hjn, ← genL_get hS hf]
  exact hj
theorem genL_ones (h1 : ∀ x, ∀ u ∈ (f x).toList, u.oneCell' = true) (l : List α) : ∀ u ∈ genL f l, u.oneCell' = true := by
  intro u hu
  obtain ⟨x, _, hx⟩ := List.mem_flatMap.1 hu
  exact h1 x u hx
/-- Other memory of another type may change. -/
theorem own_upd {w w' : World} {B T S n k U : Nat} {v : Value} {xs : List Value} {cs : Array Value} (h : w.ownsRow B T S v n xs) (hr : RowAt w k U cs) (hne : T ≠ U) (hu : Upd k w w') : w'.ownsRow B T S v n xs := by
  refine ⟨h.1, ?_⟩
  rcases h.2 with hn | ⟨g, cap, cur, rfl, hbg, hg, rest⟩
  · exact .inl hn
  · refine .inr ⟨g, cap, cur, rfl, hbg, (hu.block g (lt_of_block hg) fun e => ?_).trans hg, rest⟩
    simp at e
    subst e
    unfold RowAt at hr
    rw [hr] at hg
    simp at hg
    exact hne hg.2.symm
end
end Go.Proofs.YtjeigphhepngmaaGreatDoor

namespace Go.Proofs.YtjeigphhepngmaaGreatDoor
open Go.RowKit

theorem own_run {w w' : World} {base T S n : Nat} {v : Value} {xs : List Value} (h : w.ownsRow base T S v n xs) (hb : Below w.heap.size w w') : w'.ownsRow base T S v n xs := by
  refine ⟨h.1, ?_⟩
  rcases h.2 with hn | ⟨g, cap, cur, rfl, hbg, hg, rest⟩
  · exact .inl hn
  · exact .inr ⟨g, cap, cur, rfl, hbg, (hb.block g (lt_of_block hg)).trans hg, rest⟩
theorem own_two {w w' : World} {b1 T1 S1 n1 b2 T2 S2 n2 : Nat} {v1 v2 : Value} {x1 x2 : List Value} (h1 : w.ownsRow b1 T1 S1 v1 n1 x1) (h2 : w.ownsRow b2 T2 S2 v2 n2 x2) (hne : T1 ≠ T2) (hg : w.grownBy w' v1.ownBlock) : w'.ownsRow b2 T2 S2 v2 n2 x2 := by
  refine h2.kept hg ?_
  cases e2 : v2.ownBlock with
  | none => exact .inl rfl
  | some k2 =>
    refine .inr fun e => ?_
    rcases h1.2 with ⟨rfl, _⟩ | ⟨g1, c1, u1, rfl, _, hg1, _⟩
    · cases e
    · rcases h2.2 with ⟨rfl, _⟩ | ⟨g2, c2, u2, rfl, _, hg2, _⟩
      · cases e2
      · simp [Value.ownBlock] at e e2
        subst e2
        rw [← e, hg2] at hg1
        simp at hg1
        exact hne hg1.2.symm
theorem row_two {w w' : World} {b1 T1 S1 n1 k T : Nat} {v1 : Value} {x1 : List Value} {cs : Array Value} (h1 : w.ownsRow b1 T1 S1 v1 n1 x1) (h2 : RowAt w k T cs) (hne : T1 ≠ T) (hg : w.grownBy w' v1.ownBlock) : RowAt w' k T cs := by
  refine (hg.block k (lt_of_block h2) fun e => ?_).trans h2
  rcases h1.2 with ⟨rfl, _⟩ | ⟨g1, c1, u1, rfl, _, hg1, _⟩
  · cases e
  · simp [Value.ownBlock] at e
    subst e
    unfold RowAt at h2
    rw [h2] at hg1
    simp at hg1
    exact hne hg1.2.symm
/-- What grows a row that the call owns changes no old block but `b`. -/
theorem upd_grown {b base T S n : Nat} {a w w' : World} {v : Value} {xs : List Value} (h : Upd b a w) (hown : w.ownsRow base T S v n xs) (hB : a.heap.size ≤ base) (hg : w.grownBy w' v.ownBlock) : Upd b a w' := by
  refine ⟨hg.os.trans h.os, hg.tape.trans h.tape, hg.output.trans h.output, Nat.le_trans h.size hg.size, fun k hk hne => (hg.block k (by have := h.size; omega) fun e => ?_).trans (h.block k hk hne)⟩
  have := (hown.lt k e.symm).1
  omega
theorem own_shape {w : World} {base T S n : Nat} {v : Value} {xs : List Value} (h : w.ownsRow base T S v n xs) : ∃ a cap, v = .slice a n cap ∧ n ≤ cap := by
  rcases h.2 with ⟨rfl, hn⟩ | ⟨g, cap, cur, rfl, hbg, hg, hnc, rest⟩
  · exact ⟨none, 0, by rw [hn], by omega⟩
  · exact ⟨_, _, rfl, hnc⟩
/-- A slice whose memory is new. -/
def NewB (B : Nat) (v : Value) : Prop := ∀ g off n cap, v = .slice (some ⟨g, off, none⟩) n cap → B ≤ g
theorem own_new {w : World} {base T S n : Nat} {v : Value} {xs : List Value} (h : w.ownsRow base T S v n xs) : NewB base v := by
  intro g off m cap e
  rcases h.2 with ⟨rfl, hn⟩ | ⟨g', cap', cur, rfl, hbg, _⟩
  · cases e
  · cases e
    exact hbg
theorem newB_nil (B : Nat) : NewB B (.slice none 0 0) := fun g off n cap e => by cases e
end Go.Proofs.YtjeigphhepngmaaGreatDoor
