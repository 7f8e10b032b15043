/-
  What the writer writes: lists of flat elements, one behind the other.
-/
import Derived.Test.YtjeigphhepngmaaGreatDoorYe
import Derived.Test.YtjeigphhepngmaaGreatDoorOwn
namespace Go.Proofs.YtjeigphhepngmaaGreatDoor
open Go.RowKit

/-- A slice value that lies below `B` holds a list of elements. -/
def LowAt {α : Type} (B S : Nat) (f : α → Array Value) (w : World) (v : Value) (l : List α) : Prop :=
  (l.length = 0 ∧ ∃ a cap, v = .slice a 0 cap) ∨ (0 < l.length ∧ l.length ≤ 140737488351232 ∧ ∃ b off cap, v = .slice (some ⟨b, off, none⟩) l.length cap ∧ b < B ∧ ∀ j, j < l.length * S → w.cell? ⟨b, off + j, none⟩ = genC S f l j)
theorem LowAt.kept {α : Type} {B S : Nat} {f : α → Array Value} {w w' : World} {v : Value} {l : List α} (h : LowAt B S f w v l) (hb : Below B w w') : LowAt B S f w' v l := by
  rcases h with h | ⟨h0, h1, b, off, cap, rfl, hlt, hc⟩
  · exact .inl h
  · exact .inr ⟨h0, h1, b, off, cap, rfl, hlt, fun j hj => (hb.cell (p := ⟨b, off + j, none⟩) hlt).trans (hc j hj)⟩
theorem ListAt.low {α : Type} {B S : Nat} {f : α → Array Value} {w : World} {v : Value} {l : List α} (h : ListAt S f w v l) (hB : w.heap.size ≤ B) : LowAt B S f w v l := by
  rcases h with h | ⟨h0, h1, b, off, cap, rfl, hlt, hc⟩
  · exact .inl h
  · exact .inr ⟨h0, h1, b, off, cap, rfl, by omega, hc⟩
theorem LowAt.list {α : Type} {B S : Nat} {f : α → Array Value} {w : World} {v : Value} {l : List α} (h : LowAt B S f w v l) (hB : B ≤ w.heap.size) : ListAt S f w v l := by
  rcases h with h | ⟨h0, h1, b, off, cap, rfl, hlt, hc⟩
  · exact .inl h
  · exact .inr ⟨h0, h1, b, off, cap, rfl, by omega, hc⟩
theorem intsOf_len (l : List Int) : (intA l).size = l.length := intA_size l
theorem flat_le {α : Type} {f : α → List UInt8} {l : List α} {k : Nat} {a : α} (h : l[k]? = some a) : ((l.take k).flatMap f).length + (f a).length ≤ (l.flatMap f).length := by
  have e : l = l.take (k + 1) ++ l.drop (k + 1) := (List.take_append_drop _ _).symm
  have e2 : l.take (k + 1) = l.take k ++ [a] := take_succ_some h
  have := congrArg (fun x => (x.flatMap f).length) e
  simp only [e2, List.flatMap_append, List.length_append] at this
  simp at this ⊢
  omega

/-- Moves and times as cells. -/
def mvA (m : Mv) : Array Value := #[.int .i64 m.ch, .int .i64 m.at_, .int .i64 m.pal, .int .i64 m.lev, .int .i64 m.part]
def timA (t : Tim) : Array Value := #[.int .i64 t.up, .int .i64 t.down, .int .i64 t.pos, .int .i64 t.col, .int .i64 t.beam, .int .i64 t.del]

set_option maxHeartbeats 1000000 in
set_option maxRecDepth 100000 in
theorem mv_one (B b p : Nat) (l : List UInt8) (m : Mv) (w : World) (h : Wtr B b l w) (hp : AtP w p b) (hi : Ints64 (mvI m)) (hlen : l.length + (mvB m).length ≤ 140737488355328) (hB : B ≤ w.heap.size) :
    Calls Tryz.prog 162 #[.agg #[.int .i64 m.ch, .int .i64 m.at_, .int .i64 m.pal, .int .i64 m.lev, .int .i64 m.part], .pointer (some ⟨p, 0, none⟩)] w fun e w' => e = .returned (.tuple #[]) ∧ Wtr B b (l ++ mvB m) w' ∧ KeptW B b w w' := by
  have C := Lib.hid (fun (W : World) (g : Nat) (hg : RowAt W g 3 (intA (mvI m))) (hb : Below w.heap.size w W) => wints_any B b g l (mvI m) W (h.run hb) hg hi (by simp [mvI]) (by simp [mvI]) hlen (Nat.le_trans hB hb.size))
  obtain ⟨x1, x2, x3, x4, x5, x6⟩ := row_facts hp
  clear hi hlen
  go_enter Tryz.func162, Tryz.ntmps162
  go_wp2_with fail
  refine (C.out _ _ (RowAt.mk (by simp) rfl) (by (repeat' (first | (with_reducible exact Below.refl _ _) | (with_reducible assumption) | (with_reducible refine below_run ?_ (by assumption)) | (with_reducible refine below_of_upd ?_ (by assumption) ?_) | (with_reducible refine below_drewN ?_ _) | (with_reducible refine Below.drew ?_) | (with_reducible refine below_seven ?_ ?_) | (with_reducible refine below_six ?_ ?_) | (with_reducible refine below_one ?_ ?_) | (with_reducible refine Below.alloc ?_ ?_ _) | (with_reducible refine below_after ?_ ?_ (by assumption)) | (show _ ≤ _; first | omega | (simp; done) | (simp; omega)))))).mono ?_
  rintro e w1 ⟨rfl, hw1, hk1⟩
  go_wp2
  (first | go_end0 | refine bodyPost_ret (results_none rfl _ _ _) rfl ?_)
  exact ⟨rfl, hw1, (((KeptW.refl _ _ _).alloc hB _).alloc (by simp; omega) _).trans hk1⟩

set_option maxHeartbeats 1000000 in
set_option maxRecDepth 100000 in
theorem tim_one (B b p : Nat) (l : List UInt8) (m : Tim) (w : World) (h : Wtr B b l w) (hp : AtP w p b) (hi : Ints64 (timI m)) (hlen : l.length + (timB m).length ≤ 140737488355328) (hB : B ≤ w.heap.size) :
    Calls Tryz.prog 164 #[.agg #[.int .i64 m.up, .int .i64 m.down, .int .i64 m.pos, .int .i64 m.col, .int .i64 m.beam, .int .i64 m.del], .pointer (some ⟨p, 0, none⟩)] w fun e w' => e = .returned (.tuple #[]) ∧ Wtr B b (l ++ timB m) w' ∧ KeptW B b w w' := by
  have C := Lib.hid (fun (W : World) (g : Nat) (hg : RowAt W g 3 (intA (timI m))) (hb : Below w.heap.size w W) => wints_any B b g l (timI m) W (h.run hb) hg hi (by simp [timI]) (by simp [timI]) hlen (Nat.le_trans hB hb.size))
  obtain ⟨x1, x2, x3, x4, x5, x6⟩ := row_facts hp
  clear hi hlen
  go_enter Tryz.func164, Tryz.ntmps164
  go_wp2_with fail
  refine (C.out _ _ (RowAt.mk (by simp) rfl) (by (repeat' (first | (with_reducible exact Below.refl _ _) | (with_reducible assumption) | (with_reducible refine below_run ?_ (by assumption)) | (with_reducible refine below_of_upd ?_ (by assumption) ?_) | (with_reducible refine below_drewN ?_ _) | (with_reducible refine Below.drew ?_) | (with_reducible refine below_seven ?_ ?_) | (with_reducible refine below_six ?_ ?_) | (with_reducible refine below_one ?_ ?_) | (with_reducible refine Below.alloc ?_ ?_ _) | (with_reducible refine below_after ?_ ?_ (by assumption)) | (show _ ≤ _; first | omega | (simp; done) | (simp; omega)))))).mono ?_
  rintro e w1 ⟨rfl, hw1, hk1⟩
  go_wp2
  (first | go_end0 | refine bodyPost_ret (results_none rfl _ _ _) rfl ?_)
  exact ⟨rfl, hw1, (((KeptW.refl _ _ _).alloc hB _).alloc (by simp; omega) _).trans hk1⟩

set_option maxHeartbeats 1000000 in
set_option maxRecDepth 100000 in
theorem mv_each (B b p : Nat) (l : List UInt8) (v : Value) (ms : List Mv) (w : World) (h : Wtr B b l w) (hp : AtP w p b) (hv : LowAt B 5 mvA w v ms) (hi : ∀ m ∈ ms, Ints64 (mvI m)) (hlen : l.length + (intB ms.length).length + (ms.flatMap mvB).length ≤ 140737488355328) (hB : B ≤ w.heap.size) :
    Calls Tryz.prog 161 #[.pointer (some ⟨b, 0, none⟩), v, .func (.func 162) #[] #[.pointer (some ⟨p, 0, none⟩)]] w fun e w' => e = .returned (.tuple #[]) ∧ Wtr B b (l ++ intB ms.length ++ ms.flatMap mvB) w' ∧ KeptW B b w w' := by
  have hsh : ∃ a cap, v = .slice a ms.length cap ∧ ms.length ≤ 140737488351232 := by
    rcases hv with ⟨h0, a, cap, rfl⟩ | ⟨_, h1, g, off, cap, rfl, _⟩
    · exact ⟨a, cap, by rw [h0], by omega⟩
    · exact ⟨_, _, rfl, h1⟩
  obtain ⟨a, cap, rfl, hml⟩ := hsh
  have C := Lib.hid (wint1_any B b l ms.length w h (by omega) (by omega) hB)
  have HI := Lib.hid hi
  have HL := Lib.hid hlen
  have HP := Lib.hid (And.intro h (And.intro hp hv))
  have h3 : (ms.length : Int) ≤ 140737488351232 := by omega
  clear hi hlen h hp hv
  go_enter Tryz.func161, Tryz.ntmps161
  go_wp2_with fail
  refine C.out.mono ?_
  rintro e w1 ⟨rfl, hw1, hk1⟩
  have HH := Lib.hid (And.intro hw1 (And.intro (hk1.row HP.out.2.1 (HP.out.1.far HP.out.2.1 (by decide)) (by decide)) (And.intro (HP.out.2.2.kept hk1.1) hk1)))
  have hB1 : B ≤ w1.heap.size := Nat.le_trans hB hk1.1.size
  clear hw1 hk1
  go_wp2
  go_loopw [7, 15] (fun _ i wr => ∃ k : Nat, k ≤ ms.length ∧ i = .int .i64 k ∧ Hid (Wtr B b (l ++ intB ms.length ++ (ms.take k).flatMap mvB) wr ∧ KeptW B b w1 wr)) (fun _ i _ => ms.length - (intOf i).toNat)
  case atStart => exact ⟨0, Nat.zero_le _, rfl, Lib.hid ⟨by simpa using HH.out.1, KeptW.refl _ _ _⟩⟩
  case round =>
    obtain ⟨k, hk, rfl, hh⟩ := hrel
    obtain ⟨hw, hkp⟩ := hh.out
    by_cases hlt : k < ms.length
    · have hlt3 : (k : Int) < (ms.length : Int) := by omega
      have hpr : AtP wr p b := hkp.row HH.out.2.1 (HH.out.1.far HH.out.2.1 (by decide)) (by decide)
      have hvr := HH.out.2.2.1.kept hkp.1
      have hBr : B ≤ wr.heap.size := Nat.le_trans hB1 hkp.1.size
      rcases hvr with ⟨h0, _⟩ | ⟨_, _, g0, off, cap', he, hg0, hcr⟩
      · omega
      · cases he
        obtain ⟨d, hdk⟩ : ∃ d, ms[k] = d := ⟨_, rfl⟩
        have hds : ms[k]? = some d := by rw [List.getElem?_eq_getElem hlt, hdk]
        have e0 : wr.cell? ⟨g0, off + k * 5, none⟩ = some (.int .i64 d.ch) := by have := gen_cell (S := 5) (f := mvA) (by decide) hcr k hlt 0 (by decide); rw [hdk] at this; exact this
        have e1 : wr.cell? ⟨g0, off + k * 5 + 1, none⟩ = some (.int .i64 d.at_) := by have := gen_cell (S := 5) (f := mvA) (by decide) hcr k hlt 1 (by decide); rw [hdk] at this; exact this
        have e2 : wr.cell? ⟨g0, off + k * 5 + 2, none⟩ = some (.int .i64 d.pal) := by have := gen_cell (S := 5) (f := mvA) (by decide) hcr k hlt 2 (by decide); rw [hdk] at this; exact this
        have e3 : wr.cell? ⟨g0, off + k * 5 + 3, none⟩ = some (.int .i64 d.lev) := by have := gen_cell (S := 5) (f := mvA) (by decide) hcr k hlt 3 (by decide); rw [hdk] at this; exact this
        have e4 : wr.cell? ⟨g0, off + k * 5 + 4, none⟩ = some (.int .i64 d.part) := by have := gen_cell (S := 5) (f := mvA) (by decide) hcr k hlt 4 (by decide); rw [hdk] at this; exact this
        have hg0r : g0 < wr.heap.size := by omega
        have hlen2 : (l ++ intB ms.length ++ (ms.take k).flatMap mvB).length + (mvB d).length ≤ 140737488355328 := by
          have := flat_le (f := mvB) hds
          have := HL.out
          simp only [List.length_append]
          omega
        have C2 := Lib.hid (fun (W : World) (hb : Below wr.heap.size wr W) => mv_one B b p _ d W (hw.run hb) (RowAt.run hpr hb) (HI.out d (List.mem_of_getElem? hds)) hlen2 (Nat.le_trans hBr hb.size))
        have HT := Lib.hid (take_succ_some hds)
        have HK := Lib.hid hkp
        clear hw hkp hpr hcr hdk hds hlen2 hh
        go_wp2_with fail
        refine (C2.out _ (by (repeat' (first | (with_reducible exact Below.refl _ _) | (with_reducible assumption) | (with_reducible refine below_run ?_ (by assumption)) | (with_reducible refine below_of_upd ?_ (by assumption) ?_) | (with_reducible refine below_drewN ?_ _) | (with_reducible refine Below.drew ?_) | (with_reducible refine below_seven ?_ ?_) | (with_reducible refine below_six ?_ ?_) | (with_reducible refine below_one ?_ ?_) | (with_reducible refine Below.alloc ?_ ?_ _) | (with_reducible refine below_after ?_ ?_ (by assumption)) | (show _ ≤ _; first | omega | (simp; done) | (simp; omega)))))).mono ?_
        rintro e w2 ⟨rfl, hw2, hk2⟩
        have hk3 : KeptW B b wr w2 := ((KeptW.refl _ _ _).alloc hBr _).trans hk2
        have hk4 : KeptW B b w1 w2 := HK.out.trans hk3
        go_wp2
        go_roundw
        case rel => exact ⟨k + 1, by omega, by go_num, Lib.hid ⟨by rw [HT.out, List.flatMap_append, ← List.append_assoc]; simpa using hw2, hk4⟩⟩
        case measure => simp [intOf]; omega
    · obtain rfl : k = ms.length := by omega
      go_wp2
      (first | go_end0 | refine bodyPost_ret (results_none rfl _ _ _) rfl ?_)
      rw [List.take_length] at hw
      exact ⟨rfl, hw, HH.out.2.2.2.trans hkp⟩

set_option maxHeartbeats 1000000 in
set_option maxRecDepth 100000 in
theorem tim_each (B b p : Nat) (l : List UInt8) (v : Value) (ms : List Tim) (w : World) (h : Wtr B b l w) (hp : AtP w p b) (hv : LowAt B 6 timA w v ms) (hi : ∀ m ∈ ms, Ints64 (timI m)) (hlen : l.length + (intB ms.length).length + (ms.flatMap timB).length ≤ 140737488355328) (hB : B ≤ w.heap.size) :
    Calls Tryz.prog 163 #[.pointer (some ⟨b, 0, none⟩), v, .func (.func 164) #[] #[.pointer (some ⟨p, 0, none⟩)]] w fun e w' => e = .returned (.tuple #[]) ∧ Wtr B b (l ++ intB ms.length ++ ms.flatMap timB) w' ∧ KeptW B b w w' := by
  have hsh : ∃ a cap, v = .slice a ms.length cap ∧ ms.length ≤ 140737488351232 := by
    rcases hv with ⟨h0, a, cap, rfl⟩ | ⟨_, h1, g, off, cap, rfl, _⟩
    · exact ⟨a, cap, by rw [h0], by omega⟩
    · exact ⟨_, _, rfl, h1⟩
  obtain ⟨a, cap, rfl, hml⟩ := hsh
  have C := Lib.hid (wint1_any B b l ms.length w h (by omega) (by omega) hB)
  have HI := Lib.hid hi
  have HL := Lib.hid hlen
  have HP := Lib.hid (And.intro h (And.intro hp hv))
  have h3 : (ms.length : Int) ≤ 140737488351232 := by omega
  clear hi hlen h hp hv
  go_enter Tryz.func163, Tryz.ntmps163
  go_wp2_with fail
  refine C.out.mono ?_
  rintro e w1 ⟨rfl, hw1, hk1⟩
  have HH := Lib.hid (And.intro hw1 (And.intro (hk1.row HP.out.2.1 (HP.out.1.far HP.out.2.1 (by decide)) (by decide)) (And.intro (HP.out.2.2.kept hk1.1) hk1)))
  have hB1 : B ≤ w1.heap.size := Nat.le_trans hB hk1.1.size
  clear hw1 hk1
  go_wp2
  go_loopw [7, 15] (fun _ i wr => ∃ k : Nat, k ≤ ms.length ∧ i = .int .i64 k ∧ Hid (Wtr B b (l ++ intB ms.length ++ (ms.take k).flatMap timB) wr ∧ KeptW B b w1 wr)) (fun _ i _ => ms.length - (intOf i).toNat)
  case atStart => exact ⟨0, Nat.zero_le _, rfl, Lib.hid ⟨by simpa using HH.out.1, KeptW.refl _ _ _⟩⟩
  case round =>
    obtain ⟨k, hk, rfl, hh⟩ := hrel
    obtain ⟨hw, hkp⟩ := hh.out
    by_cases hlt : k < ms.length
    · have hlt3 : (k : Int) < (ms.length : Int) := by omega
      have hpr : AtP wr p b := hkp.row HH.out.2.1 (HH.out.1.far HH.out.2.1 (by decide)) (by decide)
      have hvr := HH.out.2.2.1.kept hkp.1
      have hBr : B ≤ wr.heap.size := Nat.le_trans hB1 hkp.1.size
      rcases hvr with ⟨h0, _⟩ | ⟨_, _, g0, off, cap', he, hg0, hcr⟩
      · omega
      · cases he
        obtain ⟨d, hdk⟩ : ∃ d, ms[k] = d := ⟨_, rfl⟩
        have hds : ms[k]? = some d := by rw [List.getElem?_eq_getElem hlt, hdk]
        have e0 : wr.cell? ⟨g0, off + k * 6, none⟩ = some (.int .i64 d.up) := by have := gen_cell (S := 6) (f := timA) (by decide) hcr k hlt 0 (by decide); rw [hdk] at this; exact this
        have e1 : wr.cell? ⟨g0, off + k * 6 + 1, none⟩ = some (.int .i64 d.down) := by have := gen_cell (S := 6) (f := timA) (by decide) hcr k hlt 1 (by decide); rw [hdk] at this; exact this
        have e2 : wr.cell? ⟨g0, off + k * 6 + 2, none⟩ = some (.int .i64 d.pos) := by have := gen_cell (S := 6) (f := timA) (by decide) hcr k hlt 2 (by decide); rw [hdk] at this; exact this
        have e3 : wr.cell? ⟨g0, off + k * 6 + 3, none⟩ = some (.int .i64 d.col) := by have := gen_cell (S := 6) (f := timA) (by decide) hcr k hlt 3 (by decide); rw [hdk] at this; exact this
        have e4 : wr.cell? ⟨g0, off + k * 6 + 4, none⟩ = some (.int .i64 d.beam) := by have := gen_cell (S := 6) (f := timA) (by decide) hcr k hlt 4 (by decide); rw [hdk] at this; exact this
        have e5 : wr.cell? ⟨g0, off + k * 6 + 5, none⟩ = some (.int .i64 d.del) := by have := gen_cell (S := 6) (f := timA) (by decide) hcr k hlt 5 (by decide); rw [hdk] at this; exact this
        have hg0r : g0 < wr.heap.size := by omega
        have hlen2 : (l ++ intB ms.length ++ (ms.take k).flatMap timB).length + (timB d).length ≤ 140737488355328 := by
          have := flat_le (f := timB) hds
          have := HL.out
          simp only [List.length_append]
          omega
        have C2 := Lib.hid (fun (W : World) (hb : Below wr.heap.size wr W) => tim_one B b p _ d W (hw.run hb) (RowAt.run hpr hb) (HI.out d (List.mem_of_getElem? hds)) hlen2 (Nat.le_trans hBr hb.size))
        have HT := Lib.hid (take_succ_some hds)
        have HK := Lib.hid hkp
        clear hw hkp hpr hcr hdk hds hlen2 hh
        go_wp2_with fail
        refine (C2.out _ (by (repeat' (first | (with_reducible exact Below.refl _ _) | (with_reducible assumption) | (with_reducible refine below_run ?_ (by assumption)) | (with_reducible refine below_of_upd ?_ (by assumption) ?_) | (with_reducible refine below_drewN ?_ _) | (with_reducible refine Below.drew ?_) | (with_reducible refine below_seven ?_ ?_) | (with_reducible refine below_six ?_ ?_) | (with_reducible refine below_one ?_ ?_) | (with_reducible refine Below.alloc ?_ ?_ _) | (with_reducible refine below_after ?_ ?_ (by assumption)) | (show _ ≤ _; first | omega | (simp; done) | (simp; omega)))))).mono ?_
        rintro e w2 ⟨rfl, hw2, hk2⟩
        have hk3 : KeptW B b wr w2 := ((KeptW.refl _ _ _).alloc hBr _).trans hk2
        have hk4 : KeptW B b w1 w2 := HK.out.trans hk3
        go_wp2
        go_roundw
        case rel => exact ⟨k + 1, by omega, by go_num, Lib.hid ⟨by rw [HT.out, List.flatMap_append, ← List.append_assoc]; simpa using hw2, hk4⟩⟩
        case measure => simp [intOf]; omega
    · obtain rfl : k = ms.length := by omega
      go_wp2
      (first | go_end0 | refine bodyPost_ret (results_none rfl _ _ _) rfl ?_)
      rw [List.take_length] at hw
      exact ⟨rfl, hw, HH.out.2.2.2.trans hkp⟩
end Go.Proofs.YtjeigphhepngmaaGreatDoor
