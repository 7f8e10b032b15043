/-
  The writer of records: a builder of texts in a block of its own type.
  What the writer writes: ints, texts, truths.
-/
import Derived.Shelf.Strings.BuilderK
import Derived.Test.YtjeigphhepngmaaGreatDoorYc
import Derived.Test.YtjeigphhepngmaaGreatDoorOwn
import Derived.Deep.RegionHeld3
namespace Go.Proofs.YtjeigphhepngmaaGreatDoor
open Go.RowKit

/-- A writer that holds some bytes. -/
def Wtr (B b : Nat) (l : List UInt8) (w : World) : Prop := Lib.IsBuilderF 230 5 B b (Lib.byteCells l) w
/-- Every block but `b` and rows of bytes is as it was, and all below `B`. -/
def KeptW (B b : Nat) (w w' : World) : Prop := Below B w w' ∧ Lib.OthersKept 5 (some b) w w'
theorem KeptW.refl (B b : Nat) (w : World) : KeptW B b w w := ⟨Below.refl _ _, Lib.OthersKept.refl _ _ _⟩
theorem KeptW.trans {B b : Nat} {w w1 w2 : World} (h : KeptW B b w w1) (g : KeptW B b w1 w2) : KeptW B b w w2 := ⟨h.1.trans g.1, h.2.trans g.2⟩
theorem KeptW.alloc {B b : Nat} {a w : World} (h : KeptW B b a w) (hB : B ≤ w.heap.size) (o : Obj) : KeptW B b a (w.alloc o) := ⟨h.1.alloc hB o, h.2.alloc o⟩
theorem KeptW.drew {B b : Nat} {a w : World} (h : KeptW B b a w) : KeptW B b a w.drew := ⟨h.1.drew, h.2⟩
theorem KeptW.run {B b : Nat} {a w w' : World} (h : KeptW B b a w) (hB : B ≤ w.heap.size) (hb : Below w.heap.size w w') : KeptW B b a w' :=
  ⟨h.1.trans (hb.mono hB), h.2.trans fun k _ hk _ _ => (hb.block k (lt_of_block hk)).trans hk⟩
theorem KeptW.row {B b : Nat} {w w' : World} (h : KeptW B b w w') {k T : Nat} {cs : Array Value} (hr : RowAt w k T cs) (hk : k ≠ b) (hT : T ≠ 5) : RowAt w' k T cs :=
  h.2 k _ hr (fun e => hk (Option.some.inj e)) (fun c fz e => hT (by cases e; rfl))
theorem Wtr.run {B b : Nat} {l : List UInt8} {w w' : World} (h : Wtr B b l w) (hb : Below w.heap.size w w') : Wtr B b l w' := by
  have hg : w.grownBy w' none := ⟨hb.os, hb.tape, hb.output, hb.size, fun k hk _ => hb.block k hk⟩
  rcases h with ⟨hB, v, hbk, hown, hne⟩ | ⟨hB, v, hbk, hown, hne⟩
  · exact .inl ⟨hB, v, (hb.block b (lt_of_block hbk)).trans hbk, hown.kept hg (by cases hv : v.ownBlock <;> simp), hne⟩
  · exact .inr ⟨hB, v, (hb.block b (lt_of_block hbk)).trans hbk, hown.kept hg (by cases hv : v.ownBlock <;> simp), hne⟩
theorem Wtr.alloc {B b : Nat} {l : List UInt8} {w : World} (h : Wtr B b l w) (o : Obj) : Wtr B b l (w.alloc o) := h.run ((Below.refl _ _).alloc (Nat.le_refl _) o)
theorem Wtr.lt {B b : Nat} {l : List UInt8} {w : World} (h : Wtr B b l w) : B ≤ b ∧ b < w.heap.size := by
  rcases h with ⟨hB, v, hbk, _⟩ | ⟨hB, v, hbk, _⟩
  · exact ⟨hB, lt_of_block hbk⟩
  · exact ⟨hB, lt_of_block hbk⟩
theorem Wtr.tag {B b : Nat} {l : List UInt8} {w : World} (h : Wtr B b l w) : ∃ cs fz, w.heap[b]? = some (.cells cs 230 fz) := by
  rcases h with ⟨_, v, hbk, _⟩ | ⟨_, v, hbk, _⟩
  · exact ⟨_, _, hbk⟩
  · exact ⟨_, _, hbk⟩
/-- A row of another type is not the writer's. -/
theorem Wtr.far {B b : Nat} {l : List UInt8} {w : World} (h : Wtr B b l w) {k T : Nat} {cs : Array Value} (hr : RowAt w k T cs) (hT : T ≠ 230) : k ≠ b := by
  rintro rfl
  obtain ⟨c, fz, hc⟩ := h.tag
  unfold RowAt at hr
  rw [hr] at hc
  cases hc
  exact hT rfl

theorem Tryz.wtr_size : (Tryz.prog.info? 228).map (·.size) = some 2 := by kernel_rfl
theorem Tryz.wtr_lies : liesAt Tryz.prog Tryz.prog.depth 230 (2 / Tryz.prog.cellsOf 230) 0 228 1 = true := by kernel_rfl
theorem Tryz.byte_cells : Tryz.prog.cellsOf 5 = 1 := by kernel_rfl

set_option maxHeartbeats 1000000 in
set_option maxRecDepth 100000 in
theorem wtr_fresh (b : Nat) (w : World) (h0 : w.cell? ⟨b, 0, none⟩ = some (.pointer none)) (hsh : w.shape? b = some (230, 2)) (hfz : w.frozen? ⟨b, 0, none⟩ = false) :
    Calls Tryz.prog 276 #[.pointer (some ⟨b, 0, none⟩)] w fun e w' => e = .returned (.tuple #[]) ∧ w' = w.setCell ⟨b, 0, none⟩ (.pointer (some ⟨b, 0, none⟩)) := by
  obtain ⟨j, hj, hjs⟩ := Option.map_eq_some_iff.1 Tryz.wtr_size
  have q1 := Lib.run_to_unsafe (P := Tryz.prog) w ⟨b, 0, none⟩ Tryz.underlying226 Tryz.underlying390 hj (by rw [hjs]; decide) hsh (Nat.zero_lt_succ 1)
  have q3 := Lib.run_from_unsafe (P := Tryz.prog) w ⟨b, 0, none⟩ Tryz.underlying390 Tryz.underlying226 hj hsh Tryz.wtr_lies
  have q2 : (callFunc 320 #[.pointer (some ⟨b, 0, none⟩)]).run Tryz.prog w = .ok (.value (.pointer (some ⟨b, 0, none⟩))) w := by
    rw [run_callFunc_extern Tryz.func320 (by kernel_rfl) (by kernel_rfl) (by kernel_rfl) (e := Extern.AbiNoEscape.same) (by kernel_rfl)]
    rw [Lib.run_noEscape]
    rfl
  go_enter Tryz.func276, Tryz.ntmps276
  go_wp2
  go_end0
  exact ⟨rfl, rfl⟩

set_option maxHeartbeats 1000000 in
set_option maxRecDepth 100000 in
theorem wtr_used (b : Nat) (w : World) (h0 : w.cell? ⟨b, 0, none⟩ = some (.pointer (some ⟨b, 0, none⟩))) :
    Calls Tryz.prog 276 #[.pointer (some ⟨b, 0, none⟩)] w fun e w' => e = .returned (.tuple #[]) ∧ w' = w := by
  obtain ⟨j, hj, _⟩ := Option.map_eq_some_iff.1 Tryz.wtr_size
  have q := Lib.run_neq_ptr_same w ⟨b, 0, none⟩ Tryz.underlying226 hj
  go_enter Tryz.func276, Tryz.ntmps276
  go_wp2
  go_end0
  exact ⟨rfl, rfl⟩

theorem wtr_check (B b : Nat) (bs : List Value) (w : World) (h : Lib.IsBuilderF 230 5 B b bs w) :
    Calls Tryz.prog 276 #[.pointer (some ⟨b, 0, none⟩)] w fun e w' => e = .returned (.tuple #[]) ∧ Lib.BuilderAtF 230 5 B b (.pointer (some ⟨b, 0, none⟩)) bs w' ∧ KeptW B b w w' := by
  rcases h with h | h
  · refine (wtr_fresh b w h.cell0 h.shape h.frozen0).mono ?_
    rintro e w' ⟨rfl, rfl⟩
    exact ⟨rfl, h.used _, (Below.refl B w).setCell (p := ⟨b, 0, none⟩) h.1 _, (Lib.OthersKept.refl _ _ w).setCell ⟨b, 0, none⟩ rfl _⟩
  · refine (wtr_used b w h.cell0).mono ?_
    rintro e w' ⟨rfl, rfl⟩
    exact ⟨rfl, h, KeptW.refl _ _ _⟩

set_option maxHeartbeats 1000000 in
set_option maxRecDepth 100000 in
theorem wtr_write (B b : Nat) (l : List UInt8) (s : ByteArray) (w : World) (h : Wtr B b l w) (hlen : l.length + s.size ≤ 140737488355328) (hBw : B ≤ w.heap.size) :
    Calls Tryz.prog 197 #[.pointer (some ⟨b, 0, none⟩), .string s] w fun e w' => e = .returned (.tuple #[.int .i64 s.size, .nilIface]) ∧ Wtr B b (l ++ s.data.toList) w' ∧ KeptW B b w w' := by
  obtain ⟨i0, hi, hz0, hz1, hz2⟩ := info_parts Tryz.info_byte
  have C := wtr_check B b (Lib.byteCells l) w h
  have HC := Lib.hid C
  have hlen : (Lib.byteCells l).length + s.size ≤ 140737488355328 := by rw [Lib.byteCells_length]; exact hlen
  clear C
  go_enter Tryz.func197, Tryz.ntmps197
  go_wp2_with fail
  refine HC.out.mono ?_
  rintro e w1 ⟨rfl, h1, hb1⟩
  obtain ⟨hB, v, hbk, hown, hne⟩ := h1
  have c0 : w1.cell? ⟨b, 0, none⟩ = some (.pointer (some ⟨b, 0, none⟩)) := by rw [Lib.cell_of_heap hbk]; rfl
  have c1 : w1.cell? ⟨b, 1, none⟩ = some v := by rw [Lib.cell_of_heap hbk]; rfl
  have hb1s := hb1.1.size
  go_wp2_with (at_builtin; refine Lib.wpList_append_own_stringF _ rfl _ _ 59 9 rfl B 5 i0 Tryz.underlying59 Tryz.underlying9 hi hz0 hz1 hz2 _ _ _ rfl hown s rfl ?c3 ?c4 ?c5 ?_)
  case c3 => unfold maxLen; omega
  case c4 => omega
  case c5 => omega
  intro v' w2 hown' hgrow _
  have hlt : b < w1.heap.size := lt_of_block hbk
  have hb2 : w2.heap[b]? = some (.cells #[.pointer (some ⟨b, 0, none⟩), v] 230 (0, 0)) := by
    rw [hgrow.block b hlt (fun e => hne e.symm)]
    exact hbk
  have d0 : w2.cell? ⟨b, 0, none⟩ = some (.pointer (some ⟨b, 0, none⟩)) := by rw [Lib.cell_of_heap hb2]; rfl
  have d1 : w2.cell? ⟨b, 1, none⟩ = some v := by rw [Lib.cell_of_heap hb2]; rfl
  have f1 : w2.frozen? ⟨b, 1, none⟩ = false := Lib.frozen_of_heap hb2 1
  obtain ⟨ao, n', cap, rfl⟩ : ∃ ao n' cap, v' = .slice ao n' cap := by
    rcases hown'.2 with ⟨hv, _⟩ | ⟨g, cap, cur, fz, hv, _⟩
    · exact ⟨_, _, _, hv⟩
    · exact ⟨_, _, _, hv⟩
  go_wp2
  go_ret2
  refine ⟨rfl, .inr ?_, ?_, (hb1.2.grown hgrow (Lib.ownsRowF_kind hown)).setCell ⟨b, 1, none⟩ rfl _⟩
  · rw [Lib.byteCells_append, ← Lib.strCells_eq]
    exact Lib.BuilderAtF.put (T := 230) (e := 5) hB hb2 (bs' := Lib.byteCells l ++ Lib.strCells s) (by rw [List.length_append, Lib.strCells_length]; exact hown') (by decide)
  · exact (hb1.1.grown hgrow (by omega) (fun k hk => (hown.lt k hk).1)).setCell (p := ⟨b, 1, none⟩) hB _

set_option maxHeartbeats 1000000 in
set_option maxRecDepth 100000 in
theorem wtr_string (B b : Nat) (l : List UInt8) (w : World) (h : Wtr B b l w) (h0 : l ≠ []) :
    Calls Tryz.prog 160 #[.pointer (some ⟨b, 0, none⟩)] w fun e w' => e = .returned (.string (str l)) ∧ Below B w w' := by
  obtain ⟨p, hB, v, hbk, hown, hne⟩ : ∃ p, Lib.BuilderAtF 230 5 B b p (Lib.byteCells l) w := by
    rcases h with h | h
    · exact ⟨_, h⟩
    · exact ⟨_, h⟩
  have hl0 : l.length ≠ 0 := by simpa using h0
  rw [Lib.byteCells_length] at hown
  obtain ⟨g, cap, cur, fz, rfl, hbg, hg, hfz, hnc, hcm, hcs, htake⟩ : ∃ g cap cur fz, v = .slice (some ⟨g, 0, none⟩) l.length cap ∧ B ≤ g ∧ w.heap[g]? = some (.cells cur 5 fz) ∧ fz.2 ≤ l.length * 1 ∧ l.length ≤ cap ∧ cap ≤ maxLen ∧ cur.size = cap * 1 ∧ cur.toList.take (l.length * 1) = Lib.byteCells l := by
    rcases hown.2 with ⟨_, hz⟩ | ⟨g, cap, cur, fz, hv, r⟩
    · exact absurd hz hl0
    · exact ⟨g, cap, cur, fz, hv, r⟩
  have c1 : w.drew.cell? ⟨b, 1, none⟩ = some (.slice (some ⟨g, 0, none⟩) l.length cap) := by
    have : w.drew.heap[b]? = some (.cells #[p, .slice (some ⟨g, 0, none⟩) l.length cap] 230 (0, 0)) := hbk
    rw [Lib.cell_of_heap this]; rfl
  have hSD : (Builtin.unsafeSliceData_ #[59] 331 #[.slice (some ⟨g, 0, none⟩) l.length cap]).run Tryz.prog w.drew = .ok (.pointer (some ⟨g, 0, none⟩)) w.drew :=
    Lib.run_unsafeSliceData_row _ _ _ _ _ _ (by omega)
  have hUS : (Builtin.unsafeString_ #[331, 3] 9 #[.pointer (some ⟨g, 0, none⟩), .int .i64 l.length]).run Tryz.prog w.drew = .ok (.string (str l)) (w.drew.freeze ⟨g, 0, none⟩ l.length) := by
    refine Lib.run_unsafeString_row w.drew 331 3 9 5 Tryz.underlying331 Tryz.byte_cells g cur.size (by have hg' : w.drew.heap[g]? = some (.cells cur 5 fz) := hg; simp [World.shape?, hg']) l h0 (by omega) (by unfold maxLen at hcm; omega) ?_
    intro j x hx
    have := hown.cells (g := g) rfl j (.int .u8 x.toNat) (by simp [Lib.byteCells, hx])
    exact this
  have hb : Below B w (w.drew.freeze ⟨g, 0, none⟩ l.length) := Lib.below_freeze (Below.drew (Below.refl B w)) (p := ⟨g, 0, none⟩) hbg _
  clear hown htake hbk hg h
  go_enter Tryz.func160, Tryz.ntmps160
  go_wp2
  go_region
  all_goals (go_wp2; go_ret; exact ⟨rfl, hb⟩)
end Go.Proofs.YtjeigphhepngmaaGreatDoor

namespace Go.Proofs.YtjeigphhepngmaaGreatDoor
open Go.RowKit

/-- Some ints, as cells. -/
def intA (l : List Int) : Array Value := (l.map (Value.int .i64)).toArray
theorem intA_size (l : List Int) : (intA l).size = l.length := by simp [intA]
def Ints64 (l : List Int) : Prop := ∀ n ∈ l, -9223372036854775808 ≤ n ∧ n ≤ 9223372036854775807

set_option maxHeartbeats 1000000 in
set_option maxRecDepth 100000 in
theorem wints_any (B b g : Nat) (l : List UInt8) (ns : List Int) (w : World) (h : Wtr B b l w) (hg : RowAt w g 3 (intA ns)) (hi : Ints64 ns) (h0 : 0 < ns.length) (hn : ns.length ≤ 100) (hlen : l.length + (intsB ns).length ≤ 140737488355328) (hB : B ≤ w.heap.size) :
    Calls Tryz.prog 85 #[.pointer (some ⟨b, 0, none⟩), .slice (some ⟨g, 0, none⟩) ns.length ns.length] w fun e w' => e = .returned (.tuple #[]) ∧ Wtr B b (l ++ intsB ns) w' ∧ KeptW B b w w' := by
  have HI := Lib.hid hi
  have HL := Lib.hid hlen
  have h3 : (ns.length : Int) ≤ 100 := by omega
  clear hi hlen
  go_enter Tryz.func85, Tryz.ntmps85
  go_wp2
  go_loopw [5, 8] (fun _ i wr => ∃ k : Nat, k ≤ ns.length ∧ i = .int .i64 k ∧ Hid (Wtr B b (l ++ intsB (ns.take k)) wr ∧ RowAt wr g 3 (intA ns) ∧ KeptW B b w wr)) (fun _ i _ => ns.length - (intOf i).toNat)
  case atStart => exact ⟨0, Nat.zero_le _, rfl, Lib.hid ⟨by simpa [intsB] using h, hg, KeptW.refl _ _ _⟩⟩
  case round =>
    obtain ⟨k, hk, rfl, hh⟩ := hrel
    obtain ⟨hw, hr, hkp⟩ := hh.out
    by_cases hlt : k < ns.length
    · have hlt3 : (k : Int) < (ns.length : Int) := by omega
      obtain ⟨x1, x2, x3, x4, x5, x6⟩ := row_facts hr
      have hck : wr.cell? ⟨g, k, none⟩ = some (.int .i64 ns[k]) := by rw [x1 k]; simp [intA, List.getElem?_eq_getElem hlt]
      have hbd := HI.out ns[k] (List.getElem_mem hlt)
      have hts : ns.take (k + 1) = ns.take k ++ [ns[k]] := by rw [List.take_succ_eq_append_getElem hlt]
      have hsz : (l ++ intsB (ns.take k)).length + (str (intB ns[k])).size ≤ 140737488355328 := by
        have := HL.out
        have e : ns = ns.take (k + 1) ++ ns.drop (k + 1) := (List.take_append_drop _ _).symm
        rw [e, intsB_append, hts, intsB_append] at this
        simp [intsB_cons, intsB_nil] at this
        rw [str_length]
        simp
        omega
      have HT := Lib.hid hts
      generalize ns[k] = n at hck hbd hsz HT
      obtain ⟨m1, m2⟩ := hbd
      have hBr : B ≤ wr.heap.size := Nat.le_trans hB hkp.1.size
      have C1 := Lib.hid (fun W => eint_any n W m1 m2)
      have C2 := Lib.hid (fun (W : World) (hbb : Below wr.heap.size wr W) => wtr_write B b _ (str (intB n)) W (hw.run hbb) hsz (Nat.le_trans hBr hbb.size))
      have HW := Lib.hid (And.intro hw (And.intro hr hkp))
      clear hw hr hkp hts hsz x1 hh
      go_wp2
      go_region_held3 (fun _ => True) (exact trivial) (first | (go_at_call 198; refine (C1.out _).mono ?_; rintro e w1 ⟨rfl, hb1⟩) | (go_at_call 197; refine (C2.out _ (by (repeat' (first | (with_reducible exact Below.refl _ _) | (with_reducible assumption) | (with_reducible refine below_run ?_ (by assumption)) | (with_reducible refine below_of_upd ?_ (by assumption) ?_) | (with_reducible refine below_drewN ?_ _) | (with_reducible refine Below.drew ?_) | (with_reducible refine below_seven ?_ ?_) | (with_reducible refine below_six ?_ ?_) | (with_reducible refine below_one ?_ ?_) | (with_reducible refine Below.alloc ?_ ?_ _) | (with_reducible refine below_after ?_ ?_ (by assumption)) | (show _ ≤ _; first | omega | (simp; done) | (simp; omega)))))).mono ?_; rintro e w2 ⟨rfl, hw2, hk2⟩))
      all_goals
        go_wp2
        go_roundw
        case rel =>
          refine ⟨k + 1, by omega, by go_num, Lib.hid ⟨?_, ?_, ?_⟩⟩
          · rw [HT.out, intsB_append, ← List.append_assoc]
            simpa [intsB_cons, intsB_nil, str] using hw2
          · have hq : Below wr.heap.size wr w1 := by (repeat' (first | (with_reducible exact Below.refl _ _) | (with_reducible assumption) | (with_reducible refine below_run ?_ (by assumption)) | (with_reducible refine below_of_upd ?_ (by assumption) ?_) | (with_reducible refine below_drewN ?_ _) | (with_reducible refine Below.drew ?_) | (with_reducible refine below_seven ?_ ?_) | (with_reducible refine below_six ?_ ?_) | (with_reducible refine below_one ?_ ?_) | (with_reducible refine Below.alloc ?_ ?_ _) | (with_reducible refine below_after ?_ ?_ (by assumption)) | (show _ ≤ _; first | omega | (simp; done) | (simp; omega))))
            exact hk2.row (HW.out.2.1.run hq) (HW.out.1.far HW.out.2.1 (by decide)) (by decide)
          · have hq : Below wr.heap.size wr w1 := by (repeat' (first | (with_reducible exact Below.refl _ _) | (with_reducible assumption) | (with_reducible refine below_run ?_ (by assumption)) | (with_reducible refine below_of_upd ?_ (by assumption) ?_) | (with_reducible refine below_drewN ?_ _) | (with_reducible refine Below.drew ?_) | (with_reducible refine below_seven ?_ ?_) | (with_reducible refine below_six ?_ ?_) | (with_reducible refine below_one ?_ ?_) | (with_reducible refine Below.alloc ?_ ?_ _) | (with_reducible refine below_after ?_ ?_ (by assumption)) | (show _ ≤ _; first | omega | (simp; done) | (simp; omega))))
            exact (HW.out.2.2.run hBr hq).trans hk2
        case measure => simp [intOf]; omega
    · obtain rfl : k = ns.length := by omega
      go_wp2
      (first | go_end0 | refine bodyPost_ret (results_none rfl _ _ _) rfl ?_)
      rw [List.take_length] at hw
      exact ⟨rfl, hw, hkp⟩

set_option maxHeartbeats 1000000 in
set_option maxRecDepth 100000 in
theorem wtext_any (B b : Nat) (l : List UInt8) (s : ByteArray) (w : World) (h : Wtr B b l w) (hs : s.size ≤ 9223372036854775807) (hlen : l.length + (textB s).length ≤ 140737488355328) (hB : B ≤ w.heap.size) :
    Calls Tryz.prog 86 #[.pointer (some ⟨b, 0, none⟩), .string s] w fun e w' => e = .returned (.tuple #[]) ∧ Wtr B b (l ++ textB s) w' ∧ KeptW B b w w' := by
  have C1 := Lib.hid (fun W => etext_any s W hs)
  have C2 := Lib.hid (fun (W : World) (hbb : Below w.heap.size w W) => wtr_write B b _ (str (textB s)) W (h.run hbb) (by rw [str_length]; exact hlen) (Nat.le_trans hB hbb.size))
  clear hs hlen
  go_enter Tryz.func86, Tryz.ntmps86
  go_wp2_with fail
  refine (C1.out _).mono ?_
  rintro e w1 ⟨rfl, hb1⟩
  go_wp2_with fail
  refine (C2.out _ hb1).mono ?_
  rintro e w2 ⟨rfl, hw2, hk2⟩
  go_wp2
  (first | go_end0 | refine bodyPost_ret (results_none rfl _ _ _) rfl ?_)
  exact ⟨rfl, by simpa [str] using hw2, ((KeptW.refl _ _ _).run hB hb1).trans hk2⟩

/-- The writer, in a variable of its own. -/
def AtP (w : World) (p b : Nat) : Prop := RowAt w p 131 #[.pointer (some ⟨b, 0, none⟩)]
/-- One int. -/
theorem wint1_any (B b : Nat) (l : List UInt8) (n : Int) (w : World) (h : Wtr B b l w) (hi : -9223372036854775808 ≤ n ∧ n ≤ 9223372036854775807) (hlen : l.length + (intB n).length ≤ 140737488355328) (hB : B ≤ w.heap.size) :
    Calls Tryz.prog 85 #[.pointer (some ⟨b, 0, none⟩), .slice (some ⟨w.heap.size, 0, none⟩) 1 1] (w.alloc (.cells #[.int .i64 n] 3)) fun e w' => e = .returned (.tuple #[]) ∧ Wtr B b (l ++ intB n) w' ∧ KeptW B b w w' := by
  refine (wints_any B b w.heap.size l [n] _ (h.alloc _) (RowAt.new _ _ _) (fun m hm => by simp at hm; subst hm; exact hi) (by simp) (by simp) (by simpa [intsB] using hlen) (by simp; omega)).mono ?_
  rintro e w' ⟨rfl, h1, h2⟩
  exact ⟨rfl, by simpa [intsB] using h1, ((KeptW.refl _ _ _).alloc hB _).trans h2⟩

set_option maxHeartbeats 1000000 in
set_option maxRecDepth 100000 in
theorem wtruth_any (B b : Nat) (l : List UInt8) (q : Bool) (w : World) (h : Wtr B b l w) (hlen : l.length + (intB (truthI q)).length ≤ 140737488355328) (hB : B ≤ w.heap.size) :
    Calls Tryz.prog 165 #[.pointer (some ⟨b, 0, none⟩), .bool q] w fun e w' => e = .returned (.tuple #[]) ∧ Wtr B b (l ++ intB (truthI q)) w' ∧ KeptW B b w w' := by
  have C := Lib.hid (fun n (e : truthI q = n) (hn : -9223372036854775808 ≤ n ∧ n ≤ 9223372036854775807) => wint1_any B b l n w h hn (by rw [← e]; exact hlen) hB)
  clear hlen
  cases q with
  | true =>
    go_enter Tryz.func165, Tryz.ntmps165
    go_wp2_with fail
    refine (C.out 1 rfl (by omega)).mono ?_
    rintro e w1 ⟨rfl, hw1, hk1⟩
    go_wp2
    (first | go_end0 | refine bodyPost_ret (results_none rfl _ _ _) rfl ?_)
    exact ⟨rfl, hw1, hk1⟩
  | false =>
    go_enter Tryz.func165, Tryz.ntmps165
    go_wp2_with fail
    refine (C.out 0 rfl (by omega)).mono ?_
    rintro e w1 ⟨rfl, hw1, hk1⟩
    go_wp2
    (first | go_end0 | refine bodyPost_ret (results_none rfl _ _ _) rfl ?_)
    exact ⟨rfl, hw1, hk1⟩
end Go.Proofs.YtjeigphhepngmaaGreatDoor
