/-
  Slices of elements of whatever type: what they hold, given the cells of one element.
  Packets on the wire: plain definitions and laws, no program in sight.
  A reader of packets in memory: what its block holds, and what a call may change.
-/
import Derived.Test.YtpkhcehddfmhpaaGreatBas
import Derived.Test.YtpkhcehddfmhpaaGreatSame
import Derived.Test.YtpkhcehddfmhpaaGreatSent
namespace Go.Proofs.YtpkhcehddfmhpaaGreat
open Go.RowKit

section
variable {α : Type} {S : Nat} {f : α → Array Value}
/-- The cells of a list of elements, in a row. -/
def genL (f : α → Array Value) (l : List α) : List Value := l.flatMap fun x => (f x).toList
def genC (S : Nat) (f : α → Array Value) (l : List α) (j : Nat) : Option Value := (l[j / S]?).bind fun d => (f d)[j % S]?
/-- A slice value holds a list of elements. -/
def ListAt (S : Nat) (f : α → Array Value) (w : World) (v : Value) (l : List α) : Prop := SeqAt w S v l.length (genC S f l)

theorem genL_nil : genL f [] = [] := rfl
theorem genL_cons (x : α) (l : List α) : genL f (x :: l) = (f x).toList ++ genL f l := by simp [genL]
theorem genL_append (a b : List α) : genL f (a ++ b) = genL f a ++ genL f b := by simp [genL]
theorem genL_snoc (a : List α) (x : α) : genL f (a ++ [x]) = genL f a ++ (f x).toList := by simp [genL]
theorem genL_length (hf : ∀ x, (f x).size = S) (l : List α) : (genL f l).length = l.length * S := by
  induction l with
  | nil => simp [genL]
  | cons a l ih => rw [genL_cons, List.length_append, ih, Array.length_toList, hf, List.length_cons, Nat.succ_mul, Nat.add_comm]
theorem genL_get (hS : 0 < S) (hf : ∀ x, (f x).size = S) (l : List α) (j : Nat) : (genL f l)[j]? = genC S f l j := by
  induction l generalizing j with
  | nil => simp [genL, genC]
  | cons d l ih =>
    have h7 : (f d).toList.length = S := by rw [Array.length_toList, hf]
    rw [genL_cons]
    by_cases hj : j < S
    · rw [List.getElem?_append_left (by omega), genC, Nat.div_eq_of_lt hj, Nat.mod_eq_of_lt hj]
      simp
    · have h1 : j / S = (j - S) / S + 1 := by rw [Nat.div_eq_sub_div hS (by omega)]
      have h2 : j % S = (j - S) % S := by rw [Nat.mod_eq_sub_mod (by omega)]
      rw [List.getElem?_append_right (by omega), h7, ih, genC, genC, h1, h2]
      simp
theorem genC_at (hS : 0 < S) (l : List α) (k : Nat) (hk : k < l.length) (i : Nat) (hi : i < S) : genC S f l (k * S + i) = (f l[k])[i]? := by
  have h1 : (k * S + i) / S = k := by rw [Nat.mul_comm, Nat.mul_add_div hS, Nat.div_eq_of_lt hi]; rfl
  have h2 : (k * S + i) % S = i := by rw [Nat.mul_comm, Nat.mul_add_mod, Nat.mod_eq_of_lt hi]
  unfold genC
  rw [h1, h2, List.getElem?_eq_getElem hk]
  rfl
/-- A cell of an element of a list. -/
theorem gen_cell {w : World} {b off : Nat} {l : List α} (hS : 0 < S) (hc : ∀ j, j < l.length * S → w.cell? ⟨b, off + j, none⟩ = genC S f l j) (k : Nat) (hk : k < l.length) (i : Nat) (hi : i < S) :
    w.cell? ⟨b, off + k * S + i, none⟩ = (f l[k])[i]? := by
  have : k * S + i < l.length * S := by
    have := Nat.mul_le_mul_right S (show k + 1 ≤ l.length from hk)
    rw [Nat.succ_mul] at this
    omega
  rw [Nat.add_assoc, hc _ this, genC_at hS l k hk i hi]
theorem own_list {w : World} {base T : Nat} {v : Value} {l : List α} (hS : 0 < S) (hf : ∀ x, (f x).size = S) (h : w.ownsRow base T S v l.length (genL f l)) (hn : l.length ≤ 140737488351232) : ListAt S f w v l := own_seq h hn (genL_get hS hf l)
theorem ListAt.run {w w' : World} {v : Value} {l : List α} (h : ListAt S f w v l) (hb : Below w.heap.size w w') : ListAt S f w' v l := SeqAt.below h hb
theorem ListAt.alloc {w : World} {v : Value} {l : List α} (h : ListAt S f w v l) (o : Obj) : ListAt S f (w.alloc o) v l := h.run ((Below.refl _ _).alloc (Nat.le_refl _) o)
theorem ListAt.drew {w : World} {v : Value} {l : List α} (h : ListAt S f w v l) : ListAt S f w.drew v l := h
theorem ListAt.shape {w : World} {v : Value} {l : List α} (h : ListAt S f w v l) : ∃ a cap, v = .slice a l.length cap := by
  rcases h with ⟨h0, a, cap, rfl⟩ | ⟨_, _, b, off, cap, rfl, _⟩
  · exact ⟨a, cap, by rw [h0]⟩
  · exact ⟨_, _, rfl⟩
theorem ListAt.few {w : World} {v : Value} {l : List α} (h : ListAt S f w v l) : l.length ≤ 140737488351232 := by
  rcases h with ⟨h0, _⟩ | ⟨_, h1, _⟩ <;> omega
/-- What an append reads: the element's cells, out of a block of their own. -/
theorem gen_news {w : World} {b : Nat} {T : Nat} {cs : Array Value} (h : RowAt w b T cs) : ∀ (j : Nat) u, cs.toList[j]? = some u → w.cell? ((⟨b, 0, none⟩ : Addr).add j) = some u := by
  intro j u hj
  have hadd : (⟨b, 0, none⟩ : Addr).add j = ⟨b, j, none⟩ := by unfold Addr.add; split <;> simp_all
  rw [hadd, (row_facts h).1 j]
  simpa using hj
/-- What an append of a whole list reads. -/
theorem list_news {w : World} {b off : Nat} {l : List α} (hS : 0 < S) (hf : ∀ x, (f x).size = S) (hc : ∀ j, j < l.length * S → w.cell? ⟨b, off + j, none⟩ = genC S f l j) : ∀ (j : Nat) u, (genL f l)[j]? = some u → w.cell? ((⟨b, off, none⟩ : Addr).add j) = some u := by
  intro j u hj
  have hjn : j < l.length * S := by
    have := (List.getElem?_eq_some_iff.1 hj).1
    rw [genL_length hf] at this
    exact this
  rw [Addr.add_lit, hc j hjn, ← genL_get hS hf]
  exact hj
theorem genL_ones (h1 : ∀ x, ∀ u ∈ (f x).toList, u.oneCell' = true) (l : List α) : ∀ u ∈ genL f l, u.oneCell' = true := by
  intro u hu
  obtain ⟨x, _, hx⟩ := List.mem_flatMap.1 hu
  exact h1 x u hx
/-- Other memory of another type may change. -/
theorem own_upd {w w' : World} {B T S n k U : Nat} {v : Value} {xs : List Value} {cs : Array Value} (h : w.ownsRow B T S v n xs) (hr : RowAt w k U cs) (hne : T ≠ U) (hu : Upd k w w') : w'.ownsRow B T S v n xs := by
  refine ⟨h.1, ?_⟩
  rcases h.2 with hn | ⟨g, cap, cur, rfl, hbg, hg, rest⟩
  · exact .inl hn
  · refine .inr ⟨g, cap, cur, rfl, hbg, (hu.block g (lt_of_block hg) fun e => ?_).trans hg, rest⟩
    simp at e
    subst e
    unfold RowAt at hr
    rw [hr] at hg
    simp at hg
    exact hne hg.2.symm
end
end Go.Proofs.YtpkhcehddfmhpaaGreat

namespace Go.Proofs.YtpkhcehddfmhpaaGreat

/-- A packet: its start code and its slots. -/
structure Pkt where
  start : Int
  slots : ByteArray
/-- The symbols of a packet. -/
def symsP (p : Pkt) : List (Int × Int) := (0, 176) :: (1, 12) :: (2, p.start) :: p.slots.data.toList.map fun b => (2, (b.toNat : Int))
def pktE (p : Pkt) : Int := if p.start < 0 ∨ 255 < p.start then 2 else if 512 < p.slots.size then 13 else 0

/-- What a reader has. -/
structure RdP where
  packets : List Pkt
  faults : List (Int × Int)
  since : Int
  within : Bool
  waiting : Bool
  bytes : List UInt8
def faultP (s : RdP) (i k : Int) : RdP := { s with faults := s.faults ++ [(i, k)], within := false }
def endP (s : RdP) : RdP :=
  if s.within = false then s
  else match s.bytes with
    | [] => faultP { s with within := false } s.since 4
    | b :: l => { s with within := false, packets := s.packets ++ [⟨(b.toNat : Int), str l⟩] }
def lonelyP (s : RdP) : RdP := if s.waiting then faultP { s with waiting := false } s.since 1 else s
def lowP (s : RdP) (i v : Int) : RdP := if v < 88 then faultP (endP (lonelyP s)) i 0 else { endP (lonelyP s) with since := i, waiting := true }
def markP (s : RdP) (v : Int) : RdP := if s.waiting = true ∧ 8 ≤ v then { s with waiting := false, within := true, bytes := [] } else endP (lonelyP s)
def dataP (s : RdP) (i v : Int) : RdP :=
  if (lonelyP s).within = false then lonelyP s
  else if 512 < (lonelyP s).bytes.length then faultP (lonelyP s) i 3
  else { lonelyP s with bytes := (lonelyP s).bytes ++ [UInt8.ofNat (v % 256).toNat] }
def badP (s : RdP) (i : Int) : RdP := if (lonelyP s).within then faultP (lonelyP s) i 2 else lonelyP s
def idleP (s : RdP) (v : Int) : RdP := if 1000000 ≤ v then endP (lonelyP s) else lonelyP s
/-- One symbol more. -/
def stepP (s : RdP) (i : Int) (x : Int × Int) : RdP :=
  if x.1 = 0 then lowP s i x.2 else if x.1 = 1 then markP s x.2 else if x.1 = 2 then dataP s i x.2 else if x.1 = 3 then badP s i else idleP s x.2
def runP : RdP → Nat → List (Int × Int) → RdP
  | s, _, [] => s
  | s, i, x :: l => runP (stepP s i x) (i + 1) l
def startP : RdP := ⟨[], [], 0, false, false, []⟩
def decP (l : List (Int × Int)) : RdP := endP (lonelyP (runP startP 0 l))

theorem runP_append : ∀ (a b : List (Int × Int)) (s : RdP) (i : Nat), runP s i (a ++ b) = runP (runP s i a) (i + a.length) b
  | [], _, _, _ => rfl
  | x :: a, b, s, i => by
    rw [List.cons_append, runP, runP, runP_append a b]
    congr 1
    simp
    omega
theorem byte_mod (b : UInt8) : UInt8.ofNat (((b.toNat : Int)) % 256).toNat = b := by
  have h := b.toNat_lt
  rw [show ((b.toNat : Int)) % 256 = (b.toNat : Int) from by omega]
  simp
/-- The bytes of a packet are read, one by one. -/
theorem run_bytes : ∀ (l : List UInt8) (s : RdP) (i : Nat), s.waiting = false → s.within = true → s.bytes.length + l.length ≤ 513 → runP s i (l.map fun b => (2, (b.toNat : Int))) = { s with bytes := s.bytes ++ l }
  | [], s, _, _, _, _ => by simp [runP]
  | b :: l, s, i, h1, h2, h3 => by
    have hl : lonelyP s = s := by rw [lonelyP, h1]; rfl
    have hs : stepP s i (2, (b.toNat : Int)) = { s with bytes := s.bytes ++ [b] } := by
      unfold stepP dataP
      simp only [hl, h2]
      simp only [List.length_cons] at h3
      rw [if_neg (by decide), if_neg (by decide), if_pos trivial, if_neg (by decide), if_neg (by omega), byte_mod]
    rw [List.map_cons, runP, hs, run_bytes l { s with bytes := s.bytes ++ [b] } (i + 1) h1 h2 (by simp at h3 ⊢; omega)]
    simp
/-- Bytes outside packets are passed over. -/
theorem run_passed : ∀ (l : List UInt8) (s : RdP) (i : Nat), s.waiting = false → s.within = false → runP s i (l.map fun b => (2, (b.toNat : Int))) = s
  | [], s, _, _, _ => rfl
  | b :: l, s, i, h1, h2 => by
    have hl : lonelyP s = s := by rw [lonelyP, h1]; rfl
    have hs : stepP s i (2, (b.toNat : Int)) = s := by
      unfold stepP dataP
      simp only [hl, h2]
      rw [if_neg (by decide), if_neg (by decide), if_pos trivial, if_pos trivial]
    rw [List.map_cons, runP, hs, run_passed l s _ h1 h2]

theorem byte_start (p : Pkt) (h0 : 0 ≤ p.start) (h1 : p.start ≤ 255) : ((UInt8.ofNat p.start.toNat).toNat : Int) = p.start := by
  have : (UInt8.ofNat p.start.toNat).toNat = p.start.toNat % 256 := by simp
  omega
/-- What a whole packet leaves of a reader that does not wait. -/
theorem run_packet (p : Pkt) (s : RdP) (i : Nat) (hw : s.waiting = false) (h0 : 0 ≤ p.start) (h1 : p.start ≤ 255) (h2 : p.slots.size ≤ 512) :
    runP s i (symsP p) = { endP s with since := i, within := true, waiting := false, bytes := UInt8.ofNat p.start.toNat :: p.slots.data.toList } := by
  have hl : lonelyP s = s := by rw [lonelyP, hw]; rfl
  have e1 : stepP s i (0, 176) = { endP s with since := i, waiting := true } := by
    unfold stepP lowP
    rw [if_pos rfl, if_neg (by decide), hl]
  have e2 : stepP { endP s with since := (i : Int), waiting := true } ((i + 1 : Nat) : Int) (1, 12) = { endP s with since := (i : Int), waiting := false, within := true, bytes := [] } := by
    unfold stepP markP
    rw [if_neg (by decide), if_pos rfl, if_pos ⟨rfl, by decide⟩]
  have e3 : ((2 : Int), p.start) :: (p.slots.data.toList.map fun b => ((2 : Int), (b.toNat : Int))) = (UInt8.ofNat p.start.toNat :: p.slots.data.toList).map fun b => ((2 : Int), (b.toNat : Int)) := by
    rw [List.map_cons]
    congr 2
    have := byte_start p h0 h1
    omega
  rw [symsP, runP, e1, runP, e2, e3, run_bytes _ { endP s with since := (i : Int), waiting := false, within := true, bytes := [] } (i + 1 + 1) rfl rfl (by simp; simpa using h2)]
  rfl

/-- What a packet leaves one of whose bytes is a bad one. -/
theorem run_spoilt (a b : List UInt8) (v : Int) (s : RdP) (i : Nat) (hw : s.waiting = false) (h : a.length ≤ 513) :
    runP s i ((0, 176) :: (1, 12) :: (a.map (fun b => ((2 : Int), (b.toNat : Int))) ++ (3, v) :: b.map fun b => ((2 : Int), (b.toNat : Int)))) =
      { endP s with since := i, within := false, waiting := false, bytes := a, faults := (endP s).faults ++ [(((i + 1 + 1 + a.length : Nat) : Int), 2)] } := by
  have hl : lonelyP s = s := by rw [lonelyP, hw]; rfl
  have e1 : stepP s i (0, 176) = { endP s with since := i, waiting := true } := by
    unfold stepP lowP
    rw [if_pos rfl, if_neg (by decide), hl]
  have e2 : stepP { endP s with since := (i : Int), waiting := true } ((i + 1 : Nat) : Int) (1, 12) = { endP s with since := (i : Int), waiting := false, within := true, bytes := [] } := by
    unfold stepP markP
    rw [if_neg (by decide), if_pos rfl, if_pos ⟨rfl, by decide⟩]
  have e3 : ∀ j : Int, stepP { endP s with since := (i : Int), waiting := false, within := true, bytes := a } j (3, v) = { endP s with since := (i : Int), waiting := false, within := false, bytes := a, faults := (endP s).faults ++ [(j, 2)] } := fun j => by
    unfold stepP badP
    rw [if_neg (show ¬ (3 : Int) = 0 by decide), if_neg (show ¬ (3 : Int) = 1 by decide), if_neg (show ¬ (3 : Int) = 2 by decide), if_pos rfl]
    rfl
  rw [runP, e1, runP, e2, runP_append, run_bytes _ { endP s with since := (i : Int), waiting := false, within := true, bytes := [] } (i + 1 + 1) rfl rfl (by simpa using h)]
  rw [show ([] : List UInt8) ++ a = a from rfl, runP, e3, run_passed _ _ _ rfl rfl, List.length_map]

theorem pkt_ok {p : Pkt} (h : pktE p = 0) : 0 ≤ p.start ∧ p.start ≤ 255 ∧ p.slots.size ≤ 512 := by
  unfold pktE at h
  split at h
  · exact absurd h (by decide)
  · split at h
    · exact absurd h (by decide)
    · omega
/-- A reader behind a whole packet. -/
def behindP (ps : List Pkt) (fs : List (Int × Int)) (i : Int) (p : Pkt) : RdP := ⟨ps, fs, i, true, false, UInt8.ofNat p.start.toNat :: p.slots.data.toList⟩
theorem end_behind (ps : List Pkt) (fs : List (Int × Int)) (i : Int) (p : Pkt) (h : pktE p = 0) : endP (behindP ps fs i p) = ⟨ps ++ [p], fs, i, false, false, UInt8.ofNat p.start.toNat :: p.slots.data.toList⟩ := by
  obtain ⟨h0, h1, _⟩ := pkt_ok h
  unfold endP behindP
  rw [if_neg (show ¬ true = false by decide)]
  show (⟨ps ++ [⟨((UInt8.ofNat p.start.toNat).toNat : Int), str p.slots.data.toList⟩], fs, i, false, false, _⟩ : RdP) = _
  rw [byte_start p h0 h1]
  rfl
theorem run_behind (ps : List Pkt) (fs : List (Int × Int)) (j : Int) (q p : Pkt) (i : Nat) (hq : pktE q = 0) (hp : pktE p = 0) : runP (behindP ps fs j q) i (symsP p) = behindP (ps ++ [q]) fs i p := by
  obtain ⟨h0, h1, h2⟩ := pkt_ok hp
  rw [run_packet p _ i rfl h0 h1 h2, end_behind ps fs j q hq]
  rfl
theorem run_first (p : Pkt) (s : RdP) (i : Nat) (hw : s.waiting = false) (hn : s.within = false) (hp : pktE p = 0) : runP s i (symsP p) = behindP s.packets s.faults i p := by
  obtain ⟨h0, h1, h2⟩ := pkt_ok hp
  have : endP s = s := by rw [endP, if_pos hn]
  rw [run_packet p s i hw h0 h1 h2, this]
  rfl
theorem read_behind (ps : List Pkt) (fs : List (Int × Int)) (i : Int) (p : Pkt) (h : pktE p = 0) : (endP (lonelyP (behindP ps fs i p))).packets = ps ++ [p] ∧ (endP (lonelyP (behindP ps fs i p))).faults = fs := by
  have : lonelyP (behindP ps fs i p) = behindP ps fs i p := rfl
  rw [this, end_behind ps fs i p h]
  exact ⟨rfl, rfl⟩
/-- Three packets are read as they are. -/
theorem read_three (p q r : Pkt) (hp : pktE p = 0) (hq : pktE q = 0) (hr : pktE r = 0) : (decP (symsP p ++ symsP q ++ symsP r)).packets = [p, q, r] ∧ (decP (symsP p ++ symsP q ++ symsP r)).faults = [] := by
  unfold decP
  rw [runP_append, runP_append, run_first p startP 0 rfl rfl hp, run_behind _ _ _ _ _ _ hp hq, run_behind _ _ _ _ _ _ hq hr]
  exact read_behind _ _ _ _ hr
/-- Of three packets the middle one of which has a bad byte the others are read, and there is one fault. -/
theorem read_spoilt (p r : Pkt) (a b : List UInt8) (v : Int) (hp : pktE p = 0) (hr : pktE r = 0) (ha : a.length ≤ 513) :
    (decP (symsP p ++ ((0, 176) :: (1, 12) :: (a.map (fun b => ((2 : Int), (b.toNat : Int))) ++ (3, v) :: b.map fun b => ((2 : Int), (b.toNat : Int)))) ++ symsP r)).packets = [p, r] ∧
    (decP (symsP p ++ ((0, 176) :: (1, 12) :: (a.map (fun b => ((2 : Int), (b.toNat : Int))) ++ (3, v) :: b.map fun b => ((2 : Int), (b.toNat : Int)))) ++ symsP r)).faults.length = 1 := by
  unfold decP
  rw [runP_append, runP_append, run_first p startP 0 rfl rfl hp, run_spoilt a b v _ _ rfl ha, end_behind _ _ _ _ hp, run_first r _ _ rfl rfl hr]
  obtain ⟨h1, h2⟩ := read_behind (startP.packets ++ [p]) (startP.faults ++ [(((0 + (symsP p).length + 1 + 1 + a.length : Nat) : Int), 2)]) ((0 + (symsP p ++ ((0, 176) :: (1, 12) :: (a.map (fun b => ((2 : Int), (b.toNat : Int))) ++ (3, v) :: b.map fun b => ((2 : Int), (b.toNat : Int))))).length : Nat) : Int) r hr
  exact ⟨h1, by rw [h2]; rfl⟩
end Go.Proofs.YtpkhcehddfmhpaaGreat

namespace Go.Proofs.YtpkhcehddfmhpaaGreat
open Go.RowKit

def pktA (p : Pkt) : Array Value := #[.int .i64 p.start, .string p.slots]
def prA (r : Int × Int) : Array Value := #[.int .i64 r.1, .int .i64 r.2]
abbrev PktsAt := ListAt 2 pktA
abbrev PrsAt := ListAt 2 prA

/-- The cells of a reader. -/
def rdA (v1 v2 : Value) (i : Int) (s : RdP) (v3 : Value) : Array Value := #[v1, v2, .int .i64 i, .int .i64 s.since, .bool s.within, .bool s.waiting, v3]
/-- A block is a reader at symbol `i`. -/
structure RdS (w : World) (B b : Nat) (i : Int) (s : RdP) : Prop where
  ex : ∃ v1 v2 v3, RowAt w b 123 (rdA v1 v2 i s v3) ∧ w.ownsRow B 54 2 v1 s.packets.length (genL pktA s.packets) ∧ w.ownsRow B 196 2 v2 s.faults.length (genL prA s.faults) ∧ w.ownsRow B 5 1 v3 s.bytes.length (u8L s.bytes)
  low : b < B ∧ B ≤ w.heap.size

/-- What a call may change: the reader's block and what is new. -/
structure FrP (B b : Nat) (w w' : World) : Prop where
  os : w'.os = w.os
  tape : w'.tape = w.tape
  output : w'.output = w.output
  size : w.heap.size ≤ w'.heap.size
  block : ∀ k, k < B → k ≠ b → w'.heap[k]? = w.heap[k]?

theorem frp_refl (B b : Nat) (w : World) : FrP B b w w := ⟨rfl, rfl, rfl, Nat.le_refl _, fun _ _ _ => rfl⟩
theorem frp_trans {B b : Nat} {a w w' : World} (h : FrP B b a w) (g : FrP B b w w') : FrP B b a w' :=
  ⟨g.os.trans h.os, g.tape.trans h.tape, g.output.trans h.output, Nat.le_trans h.size g.size, fun k h1 h2 => (g.block k h1 h2).trans (h.block k h1 h2)⟩
theorem frp_upd {B b : Nat} {a w w' : World} (h : FrP B b a w) (hu : Upd b w w') (hB : B ≤ w.heap.size) : FrP B b a w' :=
  frp_trans h ⟨hu.os, hu.tape, hu.output, hu.size, fun k h1 h2 => hu.block k (by omega) (by simp; omega)⟩
theorem frp_run {B b : Nat} {a w w' : World} (h : FrP B b a w) (hb : Below w.heap.size w w') (hB : B ≤ w.heap.size) : FrP B b a w' :=
  frp_trans h ⟨hb.os, hb.tape, hb.output, hb.size, fun k h1 _ => hb.block k (by omega)⟩
theorem frp_grown {B b n T S : Nat} {a w w' : World} {v : Value} {xs : List Value} (h : FrP B b a w) (hown : w.ownsRow B T S v n xs) (hB : B ≤ w.heap.size) (hg : w.grownBy w' v.ownBlock) : FrP B b a w' := by
  refine frp_trans h ⟨hg.os, hg.tape, hg.output, hg.size, fun k h1 _ => hg.block k (by omega) fun e => ?_⟩
  have := (hown.lt k e.symm).1
  omega
theorem RdS.run {w w' : World} {B b : Nat} {i : Int} {s : RdP} (h : RdS w B b i s) (hb : Below w.heap.size w w') : RdS w' B b i s := by
  obtain ⟨⟨v1, v2, v3, h1, h2, h3, h4⟩, hl⟩ := h
  exact ⟨⟨v1, v2, v3, h1.run hb, own_run h2 hb, own_run h3 hb, own_run h4 hb⟩, hl.1, Nat.le_trans hl.2 hb.size⟩
/-- Stores into the reader's block. -/
theorem RdS.upd {w w' : World} {B b : Nat} {v1 v2 v3 : Value} {i : Int} {s t : RdP} {cs : Array Value} (hr : RowAt w b 123 cs) (h2 : w.ownsRow B 54 2 v1 s.packets.length (genL pktA s.packets)) (h3 : w.ownsRow B 196 2 v2 s.faults.length (genL prA s.faults)) (h4 : w.ownsRow B 5 1 v3 s.bytes.length (u8L s.bytes))
    (hu : Upd b w w') (hn : RowAt w' b 123 (rdA v1 v2 i t v3)) (e1 : t.packets = s.packets) (e2 : t.faults = s.faults) (e3 : t.bytes = s.bytes) (hl : b < B ∧ B ≤ w.heap.size) : RdS w' B b i t := by
  refine ⟨⟨v1, v2, v3, hn, ?_, ?_, ?_⟩, hl.1, Nat.le_trans hl.2 hu.size⟩
  · rw [e1]; exact own_upd h2 hr (by decide) hu
  · rw [e2]; exact own_upd h3 hr (by decide) hu
  · rw [e3]; exact own_upd h4 hr (by decide) hu
/-- A reader has few things. -/
structure FewP (N : Nat) (s : RdP) : Prop where
  packets : s.packets.length ≤ N
  faults : s.faults.length ≤ N
  bytes : s.bytes.length ≤ 513
theorem FewP.mono {N M : Nat} {s : RdP} (h : FewP N s) (hn : N ≤ M) : FewP M s := ⟨Nat.le_trans h.packets hn, Nat.le_trans h.faults hn, h.bytes⟩
theorem few_fault {N : Nat} {s : RdP} (h : FewP N s) (i k : Int) : FewP (N + 1) (faultP s i k) := ⟨Nat.le_succ_of_le h.packets, by have := h.faults; simp [faultP]; omega, h.bytes⟩
theorem few_end {N : Nat} {s : RdP} (h : FewP N s) : FewP (N + 1) (endP s) := by
  unfold endP
  split
  · exact h.mono (by omega)
  · split
    · exact few_fault (s := { s with within := false }) ⟨h.packets, h.faults, h.bytes⟩ _ _
    · exact ⟨by have := h.packets; simp; omega, Nat.le_succ_of_le h.faults, h.bytes⟩
theorem few_lonely {N : Nat} {s : RdP} (h : FewP N s) : FewP (N + 1) (lonelyP s) := by
  unfold lonelyP
  split
  · exact few_fault (s := { s with waiting := false }) ⟨h.packets, h.faults, h.bytes⟩ _ _
  · exact h.mono (by omega)
theorem few_step {N : Nat} {s : RdP} (h : FewP N s) (i : Int) (x : Int × Int) : FewP (N + 3) (stepP s i x) := by
  have h1 := few_lonely h
  have h2 := few_end h1
  unfold stepP
  split
  · unfold lowP
    split
    · exact few_fault h2 _ _
    · exact ⟨by have := h2.packets; show (endP (lonelyP s)).packets.length ≤ _; omega, by have := h2.faults; show (endP (lonelyP s)).faults.length ≤ _; omega, h2.bytes⟩
  split
  · unfold markP
    split
    · exact ⟨by have := h.packets; show s.packets.length ≤ _; omega, by have := h.faults; show s.faults.length ≤ _; omega, by simp⟩
    · exact h2.mono (by omega)
  split
  · unfold dataP
    split
    · exact h1.mono (by omega)
    split
    · exact (few_fault h1 _ _).mono (by omega)
    · exact ⟨by have := h1.packets; show (lonelyP s).packets.length ≤ _; omega, by have := h1.faults; show (lonelyP s).faults.length ≤ _; omega, by simp; omega⟩
  split
  · unfold badP
    split
    · exact (few_fault h1 _ _).mono (by omega)
    · exact h1.mono (by omega)
  · unfold idleP
    split
    · exact h2.mono (by omega)
    · exact h1.mono (by omega)
end Go.Proofs.YtpkhcehddfmhpaaGreat
