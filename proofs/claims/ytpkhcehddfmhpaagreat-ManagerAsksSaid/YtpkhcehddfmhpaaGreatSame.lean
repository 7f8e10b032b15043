/-
  Slices: what they hold, and what the call itself makes.
  Few devices and messages: what the reference says.
  Slices of devices and of messages: what they hold.
  The law's own copying of devices.
  The reference's comparing of lists: equal lists are the same.
-/
import Derived.Test.YtpkhcehddfmhpaaGreatProg
import Derived.Test.YtpkhcehddfmhpaaGreatBas
import Derived.Test.YtpkhcehddfmhpaaGreatChk
import Derived.Test.YtpkhcehddfmhpaaGreatGet
import Derived.Laws.StructEq
namespace Go.Proofs.YtpkhcehddfmhpaaGreat
open Go.RowKit

/-- A slice value of n elements of S cells each holds the cells cs. -/
def SeqAt (w : World) (S : Nat) (v : Value) (n : Nat) (cs : Nat → Option Value) : Prop :=
  (n = 0 ∧ ∃ a cap, v = .slice a 0 cap) ∨ (0 < n ∧ n ≤ 140737488351232 ∧ ∃ b off cap, v = .slice (some ⟨b, off, none⟩) n cap ∧ b < w.heap.size ∧ ∀ j, j < n * S → w.cell? ⟨b, off + j, none⟩ = cs j)

theorem SeqAt.below {w w' : World} {S n : Nat} {v : Value} {cs : Nat → Option Value} (h : SeqAt w S v n cs) (hb : Below w.heap.size w w') : SeqAt w' S v n cs := by
  rcases h with h | ⟨h0, h1, b, off, cap, rfl, hlt, hc⟩
  · exact .inl h
  · exact .inr ⟨h0, h1, b, off, cap, rfl, Nat.lt_of_lt_of_le hlt hb.size, fun j hj => (hb.cell (p := ⟨b, off + j, none⟩) hlt).trans (hc j hj)⟩

theorem take_succ_some {α : Type} {l : List α} {k : Nat} {d : α} (h : l[k]? = some d) : l.take (k + 1) = l.take k ++ [d] := by
  rw [List.take_add_one, h]
  rfl

theorem own_seq {w : World} {base T S n : Nat} {v : Value} {xs : List Value} {cs : Nat → Option Value} (h : w.ownsRow base T S v n xs) (hn : n ≤ 140737488351232) (hx : ∀ j : Nat, xs[j]? = cs j) : SeqAt w S v n cs := by
  rcases h.2 with ⟨rfl, rfl⟩ | ⟨g, cap, cur, rfl, hb, hg, hnc, hcm, hcs, htake⟩
  · exact .inl ⟨rfl, _, _, rfl⟩
  · by_cases h0 : n = 0
    · subst h0
      exact .inl ⟨rfl, _, _, rfl⟩
    · refine .inr ⟨by omega, hn, g, 0, cap, rfl, lt_of_block hg, fun j hj => ?_⟩
      rw [Nat.zero_add, h.cellAt j hj, hx]

theorem below_grown {B : Nat} {a w w' : World} {v : Value} {base T S n : Nat} {xs : List Value} (h : Below B a w) (hown : w.ownsRow base T S v n xs) (hB : B ≤ base) (hg : w.grownBy w' v.ownBlock) (hs : B ≤ w.heap.size) : Below B a w' := by
  refine h.trans ⟨hg.os, hg.tape, hg.output, hg.size, fun k hk => hg.block k (by omega) (fun e => ?_)⟩
  have := (hown.lt k e.symm).1
  omega

/-- A slice value holds a list of texts. -/
def strsC (l : List ByteArray) (j : Nat) : Option Value := (l[j]?).map Value.string
def StrsAt (w : World) (v : Value) (l : List ByteArray) : Prop := SeqAt w 1 v l.length (strsC l)

/-- The cell of one text of a list. -/
theorem str_cell {w : World} {b off : Nat} {l : List ByteArray} (hc : ∀ j, j < l.length * 1 → w.cell? ⟨b, off + j, none⟩ = strsC l j) (k : Nat) (hk : k < l.length) :
    ∃ s, l[k]? = some s ∧ w.cell? ⟨b, off + k, none⟩ = some (.string s) := by
  refine ⟨l[k], List.getElem?_eq_getElem hk, ?_⟩
  rw [hc k (by omega), strsC, List.getElem?_eq_getElem hk]
  rfl

/-- Some bytes that the call itself holds in a slice. -/
def u8L (l : List UInt8) : List Value := l.map fun b => Value.int .u8 (b.toNat : Int)
def OwnB (w : World) (B : Nat) (v : Value) (l : List UInt8) : Prop := w.ownsRow B 5 1 v l.length (u8L l)

theorem u8L_length (l : List UInt8) : (u8L l).length = l.length := by simp [u8L]

theorem ownB_nil (w : World) (B : Nat) : OwnB w B (.slice none 0 0) [] := World.ownsRow_nil _ _ _ _

theorem OwnB.parts {w : World} {B : Nat} {v : Value} {l : List UInt8} (h : OwnB w B v l) (h0 : 0 < l.length) : ∃ g cap, v = .slice (some ⟨g, 0, none⟩) l.length cap ∧ B ≤ g ∧ g < w.heap.size ∧ l.length ≤ cap ∧
    (∀ i (hi : i < l.length), w.cell? ⟨g, i, none⟩ = some (.int .u8 (l[i].toNat : Int))) ∧ (∀ i, w.frozen? ⟨g, i, none⟩ = false) := by
  rcases h.2 with ⟨rfl, hn⟩ | ⟨g, cap, cur, rfl, hb, hg, hnc, hcm, hcs, htake⟩
  · omega
  · refine ⟨g, cap, rfl, hb, lt_of_block hg, hnc, fun i hi => ?_, fun i => frozen_of_row w g i _ _ hg⟩
    rw [cell_of_row w g i _ _ _ hg]
    have e : (u8L l)[i]? = some (.int .u8 (l[i].toNat : Int)) := by simp [u8L, List.getElem?_eq_getElem hi]
    rw [← htake, List.getElem?_take, if_pos (by omega)] at e
    simpa using e

theorem OwnB.shape {w : World} {B : Nat} {v : Value} {l : List UInt8} (h : OwnB w B v l) : ∃ a cap, v = .slice a l.length cap := by
  rcases h.2 with ⟨rfl, hn⟩ | ⟨g, cap, cur, rfl, _⟩
  · exact ⟨none, 0, by rw [hn]⟩
  · exact ⟨_, _, rfl⟩

theorem OwnB.set {w : World} {B g cap : Nat} {l : List UInt8} (h : OwnB w B (.slice (some ⟨g, 0, none⟩) l.length cap) l) (i : Nat) (x : UInt8) : OwnB (w.setCell ⟨g, i, none⟩ (.int .u8 (x.toNat : Int))) B (.slice (some ⟨g, 0, none⟩) l.length cap) (l.set i x) := by
  rcases h.2 with ⟨e, _⟩ | ⟨g', cap', cur, e, hb, hg, hnc, hcm, hcs, htake⟩
  · cases e
  · cases e
    refine ⟨by simp [u8L], .inr ⟨g, cap, cur.setIfInBounds i (.int .u8 (x.toNat : Int)), by simp, hb, heap_setCell_same w g i _ _ _ hg, by simp; exact hnc, hcm, by simp [hcs], ?_⟩⟩
    have e2 : u8L (l.set i x) = (u8L l).set i (.int .u8 (x.toNat : Int)) := by simp [u8L, List.map_set]
    rw [e2, ← htake, List.length_set, Array.toList_setIfInBounds, List.take_set]

theorem OwnB.drewN {w : World} {B : Nat} {v : Value} {l : List UInt8} (h : OwnB w B v l) (n : Nat) : OwnB (w.drewN n) B v l := h
theorem OwnB.drew {w : World} {B : Nat} {v : Value} {l : List UInt8} (h : OwnB w B v l) : OwnB w.drew B v l := h

theorem Tryz.info_byte : (Tryz.prog.info? 5).map (fun i => (i.zero, i.size, i.bytes)) = some (some (.int .u8 0), 1, 1) := by kernel_rfl

theorem strOfNums_L (l : List UInt8) : strOfNums (l.map fun b => (b.toNat : Int)) = str l := by
  simp [strOfNums, str, Function.comp_def]

theorem Tryz.conv_nil (w : World) : (convert 73 9 (.slice none 0 0)).run Tryz.prog w = .ok (.string (str [])) w := by kernel_rfl
theorem conv_own {w : World} {B : Nat} {v : Value} {l : List UInt8} (h : OwnB w B v l) : (convert 73 9 v).run Tryz.prog w = .ok (.string (str l)) w := by
  by_cases h0 : 0 < l.length
  · obtain ⟨g, cap, rfl, _, _, _, hc, _⟩ := h.parts h0
    rw [← strOfNums_L]
    refine run_convert_bytes_arg w 73 5 Tryz.underlying73 Tryz.underlying5 g 0 l.length cap _ (by simp) (fun i hi => ?_) 9 Tryz.underlying9
    rw [Nat.zero_add, hc i hi]
    simp [List.getElem?_map, List.getElem?_eq_getElem hi]
  · have hl : l = [] := List.eq_nil_of_length_eq_zero (by omega)
    subst hl
    rcases h.2 with ⟨rfl, _⟩ | ⟨g, cap, cur, rfl, _⟩
    · exact Tryz.conv_nil w
    · rw [← strOfNums_L]
      exact run_convert_bytes_arg w 73 5 Tryz.underlying73 Tryz.underlying5 g 0 0 cap [] rfl (fun i hi => by omega) 9 Tryz.underlying9

end Go.Proofs.YtpkhcehddfmhpaaGreat

namespace Go.Proofs.YtpkhcehddfmhpaaGreat
open Go.RowKit

set_option maxHeartbeats 400000 in
theorem few_is (q : Bool) (id ft ad hr : Int) (lb : ByteArray) (mu idf : Bool) (w : World) (h : Hid (decide (lb.size ≤ 100) = q)) : Calls Tryz.prog 85 #[.agg #[.int .u64 id, .int .i64 ft, .int .i64 ad, .string lb, .int .i64 hr, .bool mu, .bool idf]] w fun e w' => e = .returned (.bool q) ∧ Below w.heap.size w w' := by
  go_enter Tryz.func85, Tryz.ntmps85
  go_wp2
  go_ret
  exact ⟨ret_bool (by rw [← h.out]; simp; omega), by (repeat' (first | (with_reducible exact Below.refl _ _) | (with_reducible assumption) | (with_reducible refine below_run ?_ (by assumption)) | (with_reducible refine below_of_upd ?_ (by assumption) ?_) | (with_reducible refine below_drewN ?_ _) | (with_reducible refine Below.drew ?_) | (with_reducible refine below_seven ?_ ?_) | (with_reducible refine below_six ?_ ?_) | (with_reducible refine below_one ?_ ?_) | (with_reducible refine Below.alloc ?_ ?_ _) | (with_reducible refine below_after ?_ ?_ (by assumption)) | (show _ ≤ _; first | omega | (simp; done) | (simp; omega))))⟩

end Go.Proofs.YtpkhcehddfmhpaaGreat

namespace Go.Proofs.YtpkhcehddfmhpaaGreat
open Go.RowKit

/-- The cells of a list of devices. -/
def devsC (l : List Dev) (j : Nat) : Option Value := (l[j / 7]?).bind fun d => (devA d)[j % 7]?
/-- The cells of a list of messages. -/
def msgA (m : Msg) : Array Value := #[.int .u64 m.dst, .int .u64 m.src, .int .i64 m.seq, .int .i64 m.kind, .int .i64 m.par, .string m.dat]
def msgsC (l : List Msg) (j : Nat) : Option Value := (l[j / 6]?).bind fun d => (msgA d)[j % 6]?

/-- A slice value holds a list of devices. -/
def DevsAt (w : World) (v : Value) (l : List Dev) : Prop := SeqAt w 7 v l.length (devsC l)
def MsgsAt (w : World) (v : Value) (l : List Msg) : Prop := SeqAt w 6 v l.length (msgsC l)

theorem devsC_at (l : List Dev) (k : Nat) (hk : k < l.length) (i : Nat) (hi : i < 7) : devsC l (k * 7 + i) = (devA l[k])[i]? := by
  unfold devsC
  rw [show (k * 7 + i) / 7 = k from by omega, show (k * 7 + i) % 7 = i from by omega, List.getElem?_eq_getElem hk]
  rfl

/-- The cells of one device of a list. -/
theorem dev_cells {w : World} {b off : Nat} {l : List Dev} (hc : ∀ j, j < l.length * 7 → w.cell? ⟨b, off + j, none⟩ = devsC l j) (k : Nat) (hk : k < l.length) :
    ∃ d, l[k]? = some d ∧ w.cell? ⟨b, off + k * 7, none⟩ = some (.int .u64 d.id) ∧ w.cell? ⟨b, off + k * 7 + 1, none⟩ = some (.int .i64 d.ft) ∧ w.cell? ⟨b, off + k * 7 + 2, none⟩ = some (.int .i64 d.ad) ∧ w.cell? ⟨b, off + k * 7 + 3, none⟩ = some (.string d.lb) ∧
      w.cell? ⟨b, off + k * 7 + 4, none⟩ = some (.int .i64 d.hr) ∧ w.cell? ⟨b, off + k * 7 + 5, none⟩ = some (.bool d.mu) ∧ w.cell? ⟨b, off + k * 7 + 6, none⟩ = some (.bool d.idf) := by
  refine ⟨l[k], List.getElem?_eq_getElem hk, ?_, ?_, ?_, ?_, ?_, ?_, ?_⟩
  · rw [show off + k * 7 = off + (k * 7 + 0) from rfl, hc _ (by omega), devsC_at l k hk 0 (by decide)]; rfl
  · rw [show off + k * 7 + 1 = off + (k * 7 + 1) from rfl, hc _ (by omega), devsC_at l k hk 1 (by decide)]; rfl
  · rw [show off + k * 7 + 2 = off + (k * 7 + 2) from rfl, hc _ (by omega), devsC_at l k hk 2 (by decide)]; rfl
  · rw [show off + k * 7 + 3 = off + (k * 7 + 3) from rfl, hc _ (by omega), devsC_at l k hk 3 (by decide)]; rfl
  · rw [show off + k * 7 + 4 = off + (k * 7 + 4) from rfl, hc _ (by omega), devsC_at l k hk 4 (by decide)]; rfl
  · rw [show off + k * 7 + 5 = off + (k * 7 + 5) from rfl, hc _ (by omega), devsC_at l k hk 5 (by decide)]; rfl
  · rw [show off + k * 7 + 6 = off + (k * 7 + 6) from rfl, hc _ (by omega), devsC_at l k hk 6 (by decide)]; rfl

set_option maxHeartbeats 1000000 in
set_option maxRecDepth 100000 in
theorem fewall_any (v : Value) (l : List Dev) (w : World) (hv : DevsAt w v l) :
    Calls Tryz.prog 61 #[v] w fun e w' => e = .returned (.bool (decide (l.length ≤ 128) && l.all fun d => decide (d.lb.size ≤ 100))) ∧ Below w.heap.size w w' := by
  rcases hv with ⟨h0, a, cap, rfl⟩ | ⟨h0, h1, b, off, cap, rfl, hlt, hc⟩
  · have hl : l = [] := List.eq_nil_of_length_eq_zero h0
    subst hl
    go_enter Tryz.func61, Tryz.ntmps61
    go_wp2
    refine wp_loop_rounds 1 ?_
    rw [rounds_succ]
    go_wp2
    go_ret
    exact ⟨rfl, by (repeat' (first | (with_reducible exact Below.refl _ _) | (with_reducible assumption) | (with_reducible refine below_run ?_ (by assumption)) | (with_reducible refine below_of_upd ?_ (by assumption) ?_) | (with_reducible refine below_drewN ?_ _) | (with_reducible refine Below.drew ?_) | (with_reducible refine below_seven ?_ ?_) | (with_reducible refine below_six ?_ ?_) | (with_reducible refine below_one ?_ ?_) | (with_reducible refine Below.alloc ?_ ?_ _) | (with_reducible refine below_after ?_ ?_ (by assumption)) | (show _ ≤ _; first | omega | (simp; done) | (simp; omega))))⟩
  · by_cases h2 : l.length ≤ 128
    · have h3 : (l.length : Int) ≤ 128 := by omega
      have h4 : (0 : Int) < (l.length : Int) := by omega
      go_enter Tryz.func61, Tryz.ntmps61
      go_wp2
      go_loopw [3] (fun i wr => ∃ k : Nat, k ≤ l.length ∧ i = .int .i64 k ∧ Hid ((l.take k).all (fun d => decide (d.lb.size ≤ 100)) = true) ∧ Below w.heap.size w wr) (fun i _ => l.length - (intOf i).toNat)
      case atStart => exact ⟨0, Nat.zero_le _, rfl, by simp [Hid], Below.refl _ _⟩
      case round =>
        obtain ⟨k, hk, rfl, hall, hb0⟩ := hrel
        by_cases hlt2 : k < l.length
        · have hlt3 : (k : Int) < (l.length : Int) := by omega
          have hc' : ∀ j, j < l.length * 7 → wr.cell? ⟨b, off + j, none⟩ = devsC l j := fun j hj => (hb0.cell (p := ⟨b, off + j, none⟩) hlt).trans (hc j hj)
          obtain ⟨d, hd, e0, e1, e2, e3, e4, e5, e6⟩ := dev_cells hc' k hlt2
          obtain ⟨q, hq⟩ : ∃ q, decide (d.lb.size ≤ 100) = q := ⟨_, rfl⟩
          have HQ := Lib.hid hq
          have HD := Lib.hid hd
          have hts := take_succ_some hd
          have HT := Lib.hid hts
          clear hc hc' hq hd hts
          cases q
          · go_wp2_with fail
            refine (few_is false _ _ _ _ _ _ _ _ HQ).mono ?_
            rintro e w1 ⟨rfl, hb⟩
            go_wp2
            go_ret
            refine ⟨ret_bool ?_, by (repeat' (first | (with_reducible exact Below.refl _ _) | (with_reducible assumption) | (with_reducible refine below_run ?_ (by assumption)) | (with_reducible refine below_of_upd ?_ (by assumption) ?_) | (with_reducible refine below_drewN ?_ _) | (with_reducible refine Below.drew ?_) | (with_reducible refine below_seven ?_ ?_) | (with_reducible refine below_six ?_ ?_) | (with_reducible refine below_one ?_ ?_) | (with_reducible refine Below.alloc ?_ ?_ _) | (with_reducible refine below_after ?_ ?_ (by assumption)) | (show _ ≤ _; first | omega | (simp; done) | (simp; omega))))⟩
            have hm : d ∈ l := List.mem_of_getElem? HD.out
            have : (l.all fun d => decide (d.lb.size ≤ 100)) = false := by
              rw [List.all_eq_false]
              exact ⟨d, hm, by rw [HQ.out]; decide⟩
            rw [this]; simp
          · go_wp2_with fail
            refine (few_is true _ _ _ _ _ _ _ _ HQ).mono ?_
            rintro e w1 ⟨rfl, hb⟩
            go_wp2
            go_roundw
            case rel => exact ⟨k + 1, by omega, by go_num, by show _ = true; rw [HT.out, List.all_append, hall.out]; simp [HQ.out], by (repeat' (first | (with_reducible exact Below.refl _ _) | (with_reducible assumption) | (with_reducible refine below_run ?_ (by assumption)) | (with_reducible refine below_of_upd ?_ (by assumption) ?_) | (with_reducible refine below_drewN ?_ _) | (with_reducible refine Below.drew ?_) | (with_reducible refine below_seven ?_ ?_) | (with_reducible refine below_six ?_ ?_) | (with_reducible refine below_one ?_ ?_) | (with_reducible refine Below.alloc ?_ ?_ _) | (with_reducible refine below_after ?_ ?_ (by assumption)) | (show _ ≤ _; first | omega | (simp; done) | (simp; omega))))⟩
            case measure => simp [intOf]; omega
        · obtain rfl : k = l.length := by omega
          go_wp2
          go_ret
          refine ⟨ret_bool ?_, hb0⟩
          have := hall.out
          rw [List.take_length] at this
          rw [this]; simp [h2]
    · have h3 : 128 < (l.length : Int) := by omega
      go_enter Tryz.func61, Tryz.ntmps61
      go_wp2
      go_ret
      exact ⟨ret_bool (by simp [h2]), by (repeat' (first | (with_reducible exact Below.refl _ _) | (with_reducible assumption) | (with_reducible refine below_run ?_ (by assumption)) | (with_reducible refine below_of_upd ?_ (by assumption) ?_) | (with_reducible refine below_drewN ?_ _) | (with_reducible refine Below.drew ?_) | (with_reducible refine below_seven ?_ ?_) | (with_reducible refine below_six ?_ ?_) | (with_reducible refine below_one ?_ ?_) | (with_reducible refine Below.alloc ?_ ?_ _) | (with_reducible refine below_after ?_ ?_ (by assumption)) | (show _ ≤ _; first | omega | (simp; done) | (simp; omega))))⟩

end Go.Proofs.YtpkhcehddfmhpaaGreat

namespace Go.Proofs.YtpkhcehddfmhpaaGreat
open Go.RowKit

theorem Tryz.info_rdev : (Tryz.prog.info? 92).map (fun i => (i.zero, i.size, i.bytes)) = some (some (.agg #[.int .u64 0, .int .i64 0, .int .i64 0, .string ⟨#[]⟩, .int .i64 0, .bool false, .bool false]), 7, 56) := by kernel_rfl
theorem Tryz.info_dev : (Tryz.prog.info? 91).map (fun i => (i.zero, i.size, i.bytes)) = some (some (.agg #[.int .u64 0, .int .i64 0, .int .i64 0, .string ⟨#[]⟩, .int .i64 0, .bool false, .bool false]), 7, 56) := by kernel_rfl
theorem Tryz.info_msg : (Tryz.prog.info? 52).map (fun i => (i.zero, i.size, i.bytes)) = some (some (.agg #[.int .u64 0, .int .u64 0, .int .i64 0, .int .i64 0, .int .i64 0, .string ⟨#[]⟩]), 6, 56) := by kernel_rfl

/-- The cells of a list of devices, in a row. -/
def devsL : List Dev → List Value
  | [] => []
  | d :: l => (devA d).toList ++ devsL l
def msgsL : List Msg → List Value
  | [] => []
  | m :: l => (msgA m).toList ++ msgsL l

theorem devsL_length (l : List Dev) : (devsL l).length = l.length * 7 := by
  induction l with
  | nil => rfl
  | cons d l ih => rw [devsL, List.length_append, ih]; simp [devA]; omega
theorem msgsL_length (l : List Msg) : (msgsL l).length = l.length * 6 := by
  induction l with
  | nil => rfl
  | cons d l ih => rw [msgsL, List.length_append, ih]; simp [msgA]; omega
theorem devsL_append (l m : List Dev) : devsL (l ++ m) = devsL l ++ devsL m := by
  induction l with
  | nil => rfl
  | cons d l ih => rw [List.cons_append, devsL, devsL, ih, List.append_assoc]
theorem msgsL_append (l m : List Msg) : msgsL (l ++ m) = msgsL l ++ msgsL m := by
  induction l with
  | nil => rfl
  | cons d l ih => rw [List.cons_append, msgsL, msgsL, ih, List.append_assoc]
theorem devsL_get (l : List Dev) (j : Nat) : (devsL l)[j]? = devsC l j := by
  induction l generalizing j with
  | nil => rfl
  | cons d l ih =>
    have h7 : (devA d).toList.length = 7 := rfl
    rw [devsL]
    by_cases hj : j < 7
    · rw [List.getElem?_append_left (by omega), devsC, show j / 7 = 0 from by omega, show j % 7 = j from by omega]
      simp
    · rw [List.getElem?_append_right (by omega), h7, ih, devsC, devsC, show j / 7 = (j - 7) / 7 + 1 from by omega, show j % 7 = (j - 7) % 7 from by omega]
      simp
theorem msgsL_get (l : List Msg) (j : Nat) : (msgsL l)[j]? = msgsC l j := by
  induction l generalizing j with
  | nil => rfl
  | cons d l ih =>
    have h6 : (msgA d).toList.length = 6 := rfl
    rw [msgsL]
    by_cases hj : j < 6
    · rw [List.getElem?_append_left (by omega), msgsC, show j / 6 = 0 from by omega, show j % 6 = j from by omega]
      simp
    · rw [List.getElem?_append_right (by omega), h6, ih, msgsC, msgsC, show j / 6 = (j - 6) / 6 + 1 from by omega, show j % 6 = (j - 6) % 6 from by omega]
      simp

theorem own_devs {w : World} {base T : Nat} {v : Value} {l : List Dev} (h : w.ownsRow base T 7 v l.length (devsL l)) (hn : l.length ≤ 140737488351232) : DevsAt w v l := own_seq h hn (devsL_get l)
theorem own_msgs {w : World} {base T : Nat} {v : Value} {l : List Msg} (h : w.ownsRow base T 6 v l.length (msgsL l)) (hn : l.length ≤ 140737488351232) : MsgsAt w v l := own_seq h hn (msgsL_get l)

theorem dev_news {w : World} {b : Nat} {T : Nat} {d : Dev} (h : RowAt w b T (devA d)) : ∀ (j : Nat) u, (devA d).toList[j]? = some u → w.cell? ((⟨b, 0, none⟩ : Addr).add j) = some u := by
  intro j u hj
  have hadd : (⟨b, 0, none⟩ : Addr).add j = ⟨b, j, none⟩ := by unfold Addr.add; split <;> simp_all
  rw [hadd, (row_facts h).1 j]
  simpa using hj
theorem dev_ones (d : Dev) : ∀ u ∈ (devA d).toList, u.oneCell' = true := by
  intro u hu
  simp [devA] at hu
  rcases hu with rfl | rfl | rfl | rfl | rfl | rfl | rfl <;> rfl
theorem msg_news {w : World} {b : Nat} {T : Nat} {d : Msg} (h : RowAt w b T (msgA d)) : ∀ (j : Nat) u, (msgA d).toList[j]? = some u → w.cell? ((⟨b, 0, none⟩ : Addr).add j) = some u := by
  intro j u hj
  have hadd : (⟨b, 0, none⟩ : Addr).add j = ⟨b, j, none⟩ := by unfold Addr.add; split <;> simp_all
  rw [hadd, (row_facts h).1 j]
  simpa using hj
theorem msg_ones (d : Msg) : ∀ u ∈ (msgA d).toList, u.oneCell' = true := by
  intro u hu
  simp [msgA] at hu
  rcases hu with rfl | rfl | rfl | rfl | rfl | rfl <;> rfl

end Go.Proofs.YtpkhcehddfmhpaaGreat

namespace Go.Proofs.YtpkhcehddfmhpaaGreat
open Go.RowKit

theorem DevsAt.below {w w' : World} {v : Value} {l : List Dev} (h : DevsAt w v l) (hb : Below w.heap.size w w') : DevsAt w' v l := SeqAt.below h hb
theorem MsgsAt.below {w w' : World} {v : Value} {l : List Msg} (h : MsgsAt w v l) (hb : Below w.heap.size w w') : MsgsAt w' v l := SeqAt.below h hb
theorem SeqAt.alloc {w : World} {S n : Nat} {v : Value} {cs : Nat → Option Value} (h : SeqAt w S v n cs) (o : Obj) : SeqAt (w.alloc o) S v n cs := h.below ((Below.refl _ _).alloc (Nat.le_refl _) _)

theorem msgsC_at (l : List Msg) (k : Nat) (hk : k < l.length) (i : Nat) (hi : i < 6) : msgsC l (k * 6 + i) = (msgA l[k])[i]? := by
  unfold msgsC
  rw [show (k * 6 + i) / 6 = k from by omega, show (k * 6 + i) % 6 = i from by omega, List.getElem?_eq_getElem hk]
  rfl
theorem msg_cells {w : World} {b off : Nat} {l : List Msg} (hc : ∀ j, j < l.length * 6 → w.cell? ⟨b, off + j, none⟩ = msgsC l j) (k : Nat) (hk : k < l.length) :
    ∃ d, l[k]? = some d ∧ w.cell? ⟨b, off + k * 6, none⟩ = some (.int .u64 d.dst) ∧ w.cell? ⟨b, off + k * 6 + 1, none⟩ = some (.int .u64 d.src) ∧ w.cell? ⟨b, off + k * 6 + 2, none⟩ = some (.int .i64 d.seq) ∧ w.cell? ⟨b, off + k * 6 + 3, none⟩ = some (.int .i64 d.kind) ∧
      w.cell? ⟨b, off + k * 6 + 4, none⟩ = some (.int .i64 d.par) ∧ w.cell? ⟨b, off + k * 6 + 5, none⟩ = some (.string d.dat) := by
  refine ⟨l[k], List.getElem?_eq_getElem hk, ?_, ?_, ?_, ?_, ?_, ?_⟩
  · rw [show off + k * 6 = off + (k * 6 + 0) from rfl, hc _ (by omega), msgsC_at l k hk 0 (by decide)]; rfl
  · rw [show off + k * 6 + 1 = off + (k * 6 + 1) from rfl, hc _ (by omega), msgsC_at l k hk 1 (by decide)]; rfl
  · rw [show off + k * 6 + 2 = off + (k * 6 + 2) from rfl, hc _ (by omega), msgsC_at l k hk 2 (by decide)]; rfl
  · rw [show off + k * 6 + 3 = off + (k * 6 + 3) from rfl, hc _ (by omega), msgsC_at l k hk 3 (by decide)]; rfl
  · rw [show off + k * 6 + 4 = off + (k * 6 + 4) from rfl, hc _ (by omega), msgsC_at l k hk 4 (by decide)]; rfl
  · rw [show off + k * 6 + 5 = off + (k * 6 + 5) from rfl, hc _ (by omega), msgsC_at l k hk 5 (by decide)]; rfl

set_option maxHeartbeats 1000000 in
set_option maxRecDepth 100000 in
theorem same_any (v u : Value) (l : List Dev) (w : World) (hv : DevsAt w v l) (hu : DevsAt w u l) :
    Calls Tryz.prog 28 #[v, u] w fun e w' => e = .returned (.bool true) ∧ Below w.heap.size w w' := by
  rcases hv with ⟨h0, a, cap, rfl⟩ | ⟨h0, h1, b, off, cap, rfl, hlt, hc⟩
  · have hl : l = [] := List.eq_nil_of_length_eq_zero h0
    subst hl
    rcases hu with ⟨_, a', cap', rfl⟩ | ⟨g0, _⟩
    · go_enter Tryz.func28, Tryz.ntmps28
      go_wp2
      refine wp_loop_rounds 1 ?_
      rw [rounds_succ]
      go_wp2
      go_ret
      exact ⟨rfl, by (repeat' (first | (with_reducible exact Below.refl _ _) | (with_reducible assumption) | (with_reducible refine below_run ?_ (by assumption)) | (with_reducible refine below_of_upd ?_ (by assumption) ?_) | (with_reducible refine below_drewN ?_ _) | (with_reducible refine Below.drew ?_) | (with_reducible refine below_seven ?_ ?_) | (with_reducible refine below_six ?_ ?_) | (with_reducible refine below_one ?_ ?_) | (with_reducible refine Below.alloc ?_ ?_ _) | (with_reducible refine below_after ?_ ?_ (by assumption)) | (show _ ≤ _; first | omega | (simp; done) | (simp; omega))))⟩
    · simp at g0
  · rcases hu with ⟨g0, _⟩ | ⟨_, _, b', off', cap', rfl, hlt', hc'⟩
    · omega
    · have h3 : (l.length : Int) ≤ 140737488351232 := by omega
      have h4 : (0 : Int) < (l.length : Int) := by omega
      have h5 : ((l.length : Int) != (l.length : Int)) = false := by simp
      go_enter Tryz.func28, Tryz.ntmps28
      go_wp2
      go_loopw [5] (fun i wr => ∃ k : Nat, k ≤ l.length ∧ i = .int .i64 k ∧ Below w.heap.size w wr) (fun i _ => l.length - (intOf i).toNat)
      case atStart => exact ⟨0, Nat.zero_le _, rfl, Below.refl _ _⟩
      case round =>
        obtain ⟨k, hk, rfl, hb0⟩ := hrel
        by_cases hlt2 : k < l.length
        · have hlt3 : (k : Int) < (l.length : Int) := by omega
          have hk0 : (0 : Int) ≤ (k : Int) := by omega
          have hw1 : ∀ j, j < l.length * 7 → wr.cell? ⟨b, off + j, none⟩ = devsC l j := fun j hj => (hb0.cell (p := ⟨b, off + j, none⟩) hlt).trans (hc j hj)
          have hw2 : ∀ j, j < l.length * 7 → wr.cell? ⟨b', off' + j, none⟩ = devsC l j := fun j hj => (hb0.cell (p := ⟨b', off' + j, none⟩) hlt').trans (hc' j hj)
          obtain ⟨d, hd, e0, e1, e2, e3, e4, e5, e6⟩ := dev_cells hw1 k hlt2
          obtain ⟨d', hd', f0, f1, f2, f3, f4, f5, f6⟩ := dev_cells hw2 k hlt2
          rw [hd] at hd'
          simp only [Option.some.injEq] at hd'
          subst hd'
          clear hc hc' hw1 hw2 hd
          go_wp2
          go_quiet (fail)
          go_wp2
          go_roundw
          case rel => exact ⟨k + 1, by omega, by go_num, by (repeat' (first | (with_reducible exact Below.refl _ _) | (with_reducible assumption) | (with_reducible refine below_run ?_ (by assumption)) | (with_reducible refine below_of_upd ?_ (by assumption) ?_) | (with_reducible refine below_drewN ?_ _) | (with_reducible refine Below.drew ?_) | (with_reducible refine below_seven ?_ ?_) | (with_reducible refine below_six ?_ ?_) | (with_reducible refine below_one ?_ ?_) | (with_reducible refine Below.alloc ?_ ?_ _) | (with_reducible refine below_after ?_ ?_ (by assumption)) | (show _ ≤ _; first | omega | (simp; done) | (simp; omega))))⟩
          case measure => simp [intOf]; omega
        · obtain rfl : k = l.length := by omega
          go_wp2
          go_ret
          exact ⟨rfl, hb0⟩

end Go.Proofs.YtpkhcehddfmhpaaGreat
