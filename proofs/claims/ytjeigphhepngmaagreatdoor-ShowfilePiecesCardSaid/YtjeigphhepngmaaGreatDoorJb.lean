/- -/
import Derived.Test.YtjeigphhepngmaaGreatDoorYe
import Derived.StillTailTactics
import Derived.Test.YtjeigphhepngmaaGreatDoorJa
namespace Go.Proofs.YtjeigphhepngmaaGreatDoor
open Go.RowKit
open Go.Lib (hid)
set_option maxHeartbeats 8000000
set_option maxRecDepth 100000
def LowAt {α : Type} (B S : Nat) (f : α → Array Value) (w : World) (v : Value) (l : List α) : Prop :=
 (l.length = 0 ∧ ∃ a cap, v = .slice a 0 cap) ∨ (0 < l.length ∧ l.length ≤ 140737488351232 ∧ ∃ b off cap, v = .slice (some ⟨b, off, none⟩) l.length cap ∧ b < B ∧ ∀ j, j < l.length * S → w.cell? ⟨b, off + j, none⟩ = genC S f l j)
theorem LowAt.kept {α : Type} {B S : Nat} {f : α → Array Value} {w w' : World} {v : Value} {l : List α} (h : LowAt B S f w v l) (hb : Below B w w') : LowAt B S f w' v l := by
 rcases h with h | ⟨h0, h1, b, off, cap, rfl, hlt, hc⟩
 · exact .inl h
 exact .inr ⟨h0, h1, b, off, cap, rfl, hlt, fun j hj => (hb.cell (p := ⟨b, off + j, none⟩) hlt).trans (hc j hj)⟩
theorem ListAt.low {α : Type} {B S : Nat} {f : α → Array Value} {w : World} {v : Value} {l : List α} (h : ListAt S f w v l) (hB : w.heap.size ≤ B) : LowAt B S f w v l := by
 rcases h with h | ⟨h0, h1, b, off, cap, rfl, hlt, hc⟩
 · exact .inl h
 exact .inr ⟨h0, h1, b, off, cap, rfl, by omega, hc⟩
theorem LowAt.list {α : Type} {B S : Nat} {f : α → Array Value} {w : World} {v : Value} {l : List α} (h : LowAt B S f w v l) (hB : B ≤ w.heap.size) : ListAt S f w v l := by
 rcases h with h | ⟨h0, h1, b, off, cap, rfl, hlt, hc⟩
 · exact .inl h
 exact .inr ⟨h0, h1, b, off, cap, rfl, by omega, hc⟩
theorem zaq {α : Type} {f : α → List UInt8} {l : List α} {k : Nat} {a : α} (h : l[k]? = some a) : ((l.take k).flatMap f).length + (f a).length ≤ (l.flatMap f).length := by
 have e : l = l.take (k + 1) ++ l.drop (k + 1) := (List.take_append_drop _ _).symm
 have e2 : l.take (k + 1) = l.take k ++ [a] := zaf h
 have := congrArg (fun x => (x.flatMap f).length) e
 simp only [e2, List.flatMap_append, List.length_append] at this
 simp at this ⊢
 omega
def mvA (m : Mv) : Array Value := #[.int .i64 m.ch, .int .i64 m.at_, .int .i64 m.pal, .int .i64 m.lev, .int .i64 m.part]
def timA (t : Tim) : Array Value := #[.int .i64 t.up, .int .i64 t.down, .int .i64 t.pos, .int .i64 t.col, .int .i64 t.beam, .int .i64 t.del]
theorem zw2 (B b p : Nat) (l : List UInt8) (m : Mv) (w : World) (h : Wtr B b l w) (hp : AtP w p b) (hi : Ints64 (mvI m)) (hlen : l.length + (mvB m).length ≤ 140737488355328) (hB : B ≤ w.heap.size) :
  Calls Tryz.prog 162 #[.agg #[.int .i64 m.ch, .int .i64 m.at_, .int .i64 m.pal, .int .i64 m.lev, .int .i64 m.part], .pointer (some ⟨p, 0, none⟩)] w fun e w' => e = .returned (.tuple #[]) ∧ Wtr B b (l ++ mvB m) w' ∧ KeptW B b w w' := by
 have C := hid (fun (W : World) (g : Nat) (hg : RowAt W g 3 (intA (mvI m))) (hb : Below w.heap.size w W) => zb5 B b g l (mvI m) W (h.run hb) hg hi (by simp [mvI]) (by simp [mvI]) hlen (Nat.le_trans hB hb.size))
 obtain ⟨x1, x2, x3, x4, x5, x6⟩ := zaa hp
 clear hi hlen
 go_enter Tryz.func162, Tryz.ntmps162
 go_wp2_with fail
 refine (C.out _ _ (RowAt.mk (by simp) rfl) bel).mono ?_
 rintro e w1 ⟨rfl, hw1, hk1⟩
 go_wp2
 (first | go_end0 | refine bodyPost_ret (results_none rfl _ _ _) rfl ?_)
 exact ⟨rfl, hw1, (((KeptW.refl _ _ _).alloc hB _).alloc (by simp; omega) _).trans hk1⟩
theorem zxs (B b p : Nat) (l : List UInt8) (m : Tim) (w : World) (h : Wtr B b l w) (hp : AtP w p b) (hi : Ints64 (timI m)) (hlen : l.length + (timB m).length ≤ 140737488355328) (hB : B ≤ w.heap.size) :
  Calls Tryz.prog 164 #[.agg #[.int .i64 m.up, .int .i64 m.down, .int .i64 m.pos, .int .i64 m.col, .int .i64 m.beam, .int .i64 m.del], .pointer (some ⟨p, 0, none⟩)] w fun e w' => e = .returned (.tuple #[]) ∧ Wtr B b (l ++ timB m) w' ∧ KeptW B b w w' := by
 have C := hid (fun (W : World) (g : Nat) (hg : RowAt W g 3 (intA (timI m))) (hb : Below w.heap.size w W) => zb5 B b g l (timI m) W (h.run hb) hg hi (by simp [timI]) (by simp [timI]) hlen (Nat.le_trans hB hb.size))
 obtain ⟨x1, x2, x3, x4, x5, x6⟩ := zaa hp
 clear hi hlen
 go_enter Tryz.func164, Tryz.ntmps164
 go_wp2_with fail
 refine (C.out _ _ (RowAt.mk (by simp) rfl) bel).mono ?_
 rintro e w1 ⟨rfl, hw1, hk1⟩
 go_wp2
 (first | go_end0 | refine bodyPost_ret (results_none rfl _ _ _) rfl ?_)
 exact ⟨rfl, hw1, (((KeptW.refl _ _ _).alloc hB _).alloc (by simp; omega) _).trans hk1⟩
theorem zqj (B b p : Nat) (l : List UInt8) (v : Value) (ms : List Mv) (w : World) (h : Wtr B b l w) (hp : AtP w p b) (hv : LowAt B 5 mvA w v ms) (hi : ∀ m ∈ ms, Ints64 (mvI m)) (hlen : l.length + (intB ms.length).length + (ms.flatMap mvB).length ≤ 140737488355328) (hB : B ≤ w.heap.size) :
  Calls Tryz.prog 161 #[.pointer (some ⟨b, 0, none⟩), v, .func (.func 162) #[] #[.pointer (some ⟨p, 0, none⟩)]] w fun e w' => e = .returned (.tuple #[]) ∧ Wtr B b (l ++ intB ms.length ++ ms.flatMap mvB) w' ∧ KeptW B b w w' := by
 have hsh : ∃ a cap, v = .slice a ms.length cap ∧ ms.length ≤ 140737488351232 := by
  rcases hv with ⟨h0, a, cap, rfl⟩ | ⟨_, h1, g, off, cap, rfl, _⟩
  · exact ⟨a, cap, by rw [h0], by omega⟩
  exact ⟨_, _, rfl, h1⟩
 obtain ⟨a, cap, rfl, hml⟩ := hsh
 have C := hid (za9 B b l ms.length w h (by omega) (by omega) hB)
 have HI := hid hi
 have HL := hid hlen
 have HP := hid (And.intro h (And.intro hp hv))
 have h3 : (ms.length : Int) ≤ 140737488351232 := by omega
 clear hi hlen h hp hv
 go_enter Tryz.func161, Tryz.ntmps161
 go_wp2_with fail
 refine C.out.mono ?_
 rintro e w1 ⟨rfl, hw1, hk1⟩
 have HH := hid (And.intro hw1 (And.intro (hk1.row HP.out.2.1 (HP.out.1.far HP.out.2.1 (by decide)) (by decide)) (And.intro (HP.out.2.2.kept hk1.1) hk1)))
 have hB1 : B ≤ w1.heap.size := Nat.le_trans hB hk1.1.size
 clear hw1 hk1
 go_wp2
 go_loopw [7, 15] (fun _ i wr => ∃ k : Nat, k ≤ ms.length ∧ i = .int .i64 k ∧ Hid (Wtr B b (l ++ intB ms.length ++ (ms.take k).flatMap mvB) wr ∧ KeptW B b w1 wr)) (fun _ i _ => ms.length - (intOf i).toNat)
 case atStart => exact ⟨0, Nat.zero_le _, rfl, hid ⟨by simpa using HH.out.1, KeptW.refl _ _ _⟩⟩
 case round =>
  obtain ⟨k, hk, rfl, hh⟩ := hrel
  obtain ⟨hw, hkp⟩ := hh.out
  by_cases hlt : k < ms.length
  · have hlt3 : (k : Int) < (ms.length : Int) := by omega
    have hpr : AtP wr p b := hkp.row HH.out.2.1 (HH.out.1.far HH.out.2.1 (by decide)) (by decide)
    have hvr := HH.out.2.2.1.kept hkp.1
    have hBr : B ≤ wr.heap.size := Nat.le_trans hB1 hkp.1.size
    rcases hvr with ⟨h0, _⟩ | ⟨_, _, g0, off, cap', he, hg0, hcr⟩
    · omega
    cases he
    obtain ⟨d, hdk⟩ : ∃ d, ms[k] = d := ⟨_, rfl⟩
    have hds : ms[k]? = some d := by rw [List.getElem?_eq_getElem hlt, hdk]
    have e0 : wr.cell? ⟨g0, off + k * 5, none⟩ = some (.int .i64 d.ch) := by have := za2 (S := 5) (f := mvA) (by decide) hcr k hlt 0 (by decide); rw [hdk] at this; exact this
    have e1 : wr.cell? ⟨g0, off + k * 5 + 1, none⟩ = some (.int .i64 d.at_) := by have := za2 (S := 5) (f := mvA) (by decide) hcr k hlt 1 (by decide); rw [hdk] at this; exact this
    have e2 : wr.cell? ⟨g0, off + k * 5 + 2, none⟩ = some (.int .i64 d.pal) := by have := za2 (S := 5) (f := mvA) (by decide) hcr k hlt 2 (by decide); rw [hdk] at this; exact this
    have e3 : wr.cell? ⟨g0, off + k * 5 + 3, none⟩ = some (.int .i64 d.lev) := by have := za2 (S := 5) (f := mvA) (by decide) hcr k hlt 3 (by decide); rw [hdk] at this; exact this
    have e4 : wr.cell? ⟨g0, off + k * 5 + 4, none⟩ = some (.int .i64 d.part) := by have := za2 (S := 5) (f := mvA) (by decide) hcr k hlt 4 (by decide); rw [hdk] at this; exact this
    have hg0r : g0 < wr.heap.size := by omega
    have hlen2 : (l ++ intB ms.length ++ (ms.take k).flatMap mvB).length + (mvB d).length ≤ 140737488355328 := by
     have := zaq (f := mvB) hds
     have := HL.out
     simp only [List.length_append]
     omega
    have C2 := hid (fun (W : World) (hb : Below wr.heap.size wr W) => zw2 B b p _ d W (hw.run hb) (RowAt.run hpr hb) (HI.out d (List.mem_of_getElem? hds)) hlen2 (Nat.le_trans hBr hb.size))
    have HT := hid (zaf hds)
    have HK := hid hkp
    clear hw hkp hpr hcr hdk hds hlen2 hh
    go_wp2_with fail
    refine (C2.out _ bel).mono ?_
    rintro e w2 ⟨rfl, hw2, hk2⟩
    have hk3 : KeptW B b wr w2 := ((KeptW.refl _ _ _).alloc hBr _).trans hk2
    have hk4 : KeptW B b w1 w2 := HK.out.trans hk3
    go_wp2
    go_roundw
    case rel => exact ⟨k + 1, by omega, by go_num, hid ⟨by rw [HT.out, List.flatMap_append, ← List.append_assoc]; simpa using hw2, hk4⟩⟩
    case measure => simp [intOf]; omega
  obtain rfl : k = ms.length := by omega
  go_wp2
  (first | go_end0 | refine bodyPost_ret (results_none rfl _ _ _) rfl ?_)
  rw [List.take_length] at hw
  exact ⟨rfl, hw, HH.out.2.2.2.trans hkp⟩
theorem ztn (B b p : Nat) (l : List UInt8) (v : Value) (ms : List Tim) (w : World) (h : Wtr B b l w) (hp : AtP w p b) (hv : LowAt B 6 timA w v ms) (hi : ∀ m ∈ ms, Ints64 (timI m)) (hlen : l.length + (intB ms.length).length + (ms.flatMap timB).length ≤ 140737488355328) (hB : B ≤ w.heap.size) :
  Calls Tryz.prog 163 #[.pointer (some ⟨b, 0, none⟩), v, .func (.func 164) #[] #[.pointer (some ⟨p, 0, none⟩)]] w fun e w' => e = .returned (.tuple #[]) ∧ Wtr B b (l ++ intB ms.length ++ ms.flatMap timB) w' ∧ KeptW B b w w' := by
 have hsh : ∃ a cap, v = .slice a ms.length cap ∧ ms.length ≤ 140737488351232 := by
  rcases hv with ⟨h0, a, cap, rfl⟩ | ⟨_, h1, g, off, cap, rfl, _⟩
  · exact ⟨a, cap, by rw [h0], by omega⟩
  exact ⟨_, _, rfl, h1⟩
 obtain ⟨a, cap, rfl, hml⟩ := hsh
 have C := hid (za9 B b l ms.length w h (by omega) (by omega) hB)
 have HI := hid hi
 have HL := hid hlen
 have HP := hid (And.intro h (And.intro hp hv))
 have h3 : (ms.length : Int) ≤ 140737488351232 := by omega
 clear hi hlen h hp hv
 go_enter Tryz.func163, Tryz.ntmps163
 go_wp2_with fail
 refine C.out.mono ?_
 rintro e w1 ⟨rfl, hw1, hk1⟩
 have HH := hid (And.intro hw1 (And.intro (hk1.row HP.out.2.1 (HP.out.1.far HP.out.2.1 (by decide)) (by decide)) (And.intro (HP.out.2.2.kept hk1.1) hk1)))
 have hB1 : B ≤ w1.heap.size := Nat.le_trans hB hk1.1.size
 clear hw1 hk1
 go_wp2
 go_loopw [7, 15] (fun _ i wr => ∃ k : Nat, k ≤ ms.length ∧ i = .int .i64 k ∧ Hid (Wtr B b (l ++ intB ms.length ++ (ms.take k).flatMap timB) wr ∧ KeptW B b w1 wr)) (fun _ i _ => ms.length - (intOf i).toNat)
 case atStart => exact ⟨0, Nat.zero_le _, rfl, hid ⟨by simpa using HH.out.1, KeptW.refl _ _ _⟩⟩
 case round =>
  obtain ⟨k, hk, rfl, hh⟩ := hrel
  obtain ⟨hw, hkp⟩ := hh.out
  by_cases hlt : k < ms.length
  · have hlt3 : (k : Int) < (ms.length : Int) := by omega
    have hpr : AtP wr p b := hkp.row HH.out.2.1 (HH.out.1.far HH.out.2.1 (by decide)) (by decide)
    have hvr := HH.out.2.2.1.kept hkp.1
    have hBr : B ≤ wr.heap.size := Nat.le_trans hB1 hkp.1.size
    rcases hvr with ⟨h0, _⟩ | ⟨_, _, g0, off, cap', he, hg0, hcr⟩
    · omega
    cases he
    obtain ⟨d, hdk⟩ : ∃ d, ms[k] = d := ⟨_, rfl⟩
    have hds : ms[k]? = some d := by rw [List.getElem?_eq_getElem hlt, hdk]
    have e0 : wr.cell? ⟨g0, off + k * 6, none⟩ = some (.int .i64 d.up) := by have := za2 (S := 6) (f := timA) (by decide) hcr k hlt 0 (by decide); rw [hdk] at this; exact this
    have e1 : wr.cell? ⟨g0, off + k * 6 + 1, none⟩ = some (.int .i64 d.down) := by have := za2 (S := 6) (f := timA) (by decide) hcr k hlt 1 (by decide); rw [hdk] at this; exact this
    have e2 : wr.cell? ⟨g0, off + k * 6 + 2, none⟩ = some (.int .i64 d.pos) := by have := za2 (S := 6) (f := timA) (by decide) hcr k hlt 2 (by decide); rw [hdk] at this; exact this
    have e3 : wr.cell? ⟨g0, off + k * 6 + 3, none⟩ = some (.int .i64 d.col) := by have := za2 (S := 6) (f := timA) (by decide) hcr k hlt 3 (by decide); rw [hdk] at this; exact this
    have e4 : wr.cell? ⟨g0, off + k * 6 + 4, none⟩ = some (.int .i64 d.beam) := by have := za2 (S := 6) (f := timA) (by decide) hcr k hlt 4 (by decide); rw [hdk] at this; exact this
    have e5 : wr.cell? ⟨g0, off + k * 6 + 5, none⟩ = some (.int .i64 d.del) := by have := za2 (S := 6) (f := timA) (by decide) hcr k hlt 5 (by decide); rw [hdk] at this; exact this
    have hg0r : g0 < wr.heap.size := by omega
    have hlen2 : (l ++ intB ms.length ++ (ms.take k).flatMap timB).length + (timB d).length ≤ 140737488355328 := by
     have := zaq (f := timB) hds
     have := HL.out
     simp only [List.length_append]
     omega
    have C2 := hid (fun (W : World) (hb : Below wr.heap.size wr W) => zxs B b p _ d W (hw.run hb) (RowAt.run hpr hb) (HI.out d (List.mem_of_getElem? hds)) hlen2 (Nat.le_trans hBr hb.size))
    have HT := hid (zaf hds)
    have HK := hid hkp
    clear hw hkp hpr hcr hdk hds hlen2 hh
    go_wp2_with fail
    refine (C2.out _ bel).mono ?_
    rintro e w2 ⟨rfl, hw2, hk2⟩
    have hk3 : KeptW B b wr w2 := ((KeptW.refl _ _ _).alloc hBr _).trans hk2
    have hk4 : KeptW B b w1 w2 := HK.out.trans hk3
    go_wp2
    go_roundw
    case rel => exact ⟨k + 1, by omega, by go_num, hid ⟨by rw [HT.out, List.flatMap_append, ← List.append_assoc]; simpa using hw2, hk4⟩⟩
    case measure => simp [intOf]; omega
  obtain rfl : k = ms.length := by omega
  go_wp2
  (first | go_end0 | refine bodyPost_ret (results_none rfl _ _ _) rfl ?_)
  rw [List.take_length] at hw
  exact ⟨rfl, hw, HH.out.2.2.2.trans hkp⟩
structure Cue64 (c : CueD) : Prop where
 moves : ∀ m ∈ c.moves, Ints64 (mvI m)
 parts : ∀ m ∈ c.parts, Ints64 (timI m)
 follow : -9223372036854775808 ≤ c.follow ∧ c.follow ≤ 9223372036854775807
 loops : -9223372036854775808 ≤ c.loops ∧ c.loops ≤ 9223372036854775807
 num : c.num.size ≤ 9223372036854775807
 lab : c.lab.size ≤ 9223372036854775807
 link : c.link.size ≤ 9223372036854775807
theorem zey (q : Bool) : -9223372036854775808 ≤ truthI q ∧ truthI q ≤ 9223372036854775807 := by cases q <;> simp [truthI]
theorem zkz (B b : Nat) (l : List UInt8) (c : CueD) (v1 v2 : Value) (w : World) (h : Wtr B b l w) (hv1 : LowAt B 5 mvA w v1 c.moves) (hv2 : LowAt B 6 timA w v2 c.parts) (hc : Cue64 c) (hlen : l.length + (cueB c).length ≤ 140737488355328) (hB : B ≤ w.heap.size) :
  Calls Tryz.prog 71 #[.pointer (some ⟨b, 0, none⟩), .agg #[.string c.num, .string c.lab, v1, v2, .bool c.block, .bool c.mark, .int .i64 c.follow, .string c.link, .int .i64 c.loops]] w fun e w' => e = .returned (.tuple #[]) ∧ Wtr B b (l ++ cueB c) w' ∧ KeptW B b w w' := by
 have hbw := h.lt.2
 have HL := hid (show l.length + (textB c.num).length + (textB c.lab).length + (intB c.moves.length).length + (c.moves.flatMap mvB).length + (intB c.parts.length).length + (c.parts.flatMap timB).length + (intB (truthI c.block)).length + (intB (truthI c.mark)).length + (intB c.follow).length + (textB c.link).length + (intB c.loops).length ≤ 140737488355328 from by
  simp only [cueB, List.length_append] at hlen
  omega)
 have HC := hid hc
 have HV := hid (And.intro h (And.intro hv1 hv2))
 clear hlen hc h hv1 hv2
 go_enter Tryz.func71, Tryz.ntmps71
 go_wp2_with fail
 have hp0 : AtP ((w.alloc (.cells #[.pointer (some ⟨b, 0, none⟩)] 131)).alloc (.cells #[.string c.num, .string c.lab, v1, v2, .bool c.block, .bool c.mark, .int .i64 c.follow, .string c.link, .int .i64 c.loops] 64)) w.heap.size b := RowAt.alloc (RowAt.new _ _ _) _
 have hq0 : RowAt ((w.alloc (.cells #[.pointer (some ⟨b, 0, none⟩)] 131)).alloc (.cells #[.string c.num, .string c.lab, v1, v2, .bool c.block, .bool c.mark, .int .i64 c.follow, .string c.link, .int .i64 c.loops] 64)) (w.heap.size + 1) 64 #[.string c.num, .string c.lab, v1, v2, .bool c.block, .bool c.mark, .int .i64 c.follow, .string c.link, .int .i64 c.loops] := by
  have h9 := RowAt.new (w.alloc (.cells #[.pointer (some ⟨b, 0, none⟩)] 131)) 64 #[.string c.num, .string c.lab, v1, v2, .bool c.block, .bool c.mark, .int .i64 c.follow, .string c.link, .int .i64 c.loops]
  rw [show (w.alloc (.cells #[.pointer (some ⟨b, 0, none⟩)] 131)).heap.size = w.heap.size + 1 from by simp] at h9
  exact h9
 have hw0 : Wtr B b l ((w.alloc (.cells #[.pointer (some ⟨b, 0, none⟩)] 131)).alloc (.cells #[.string c.num, .string c.lab, v1, v2, .bool c.block, .bool c.mark, .int .i64 c.follow, .string c.link, .int .i64 c.loops] 64)) := (HV.out.1.alloc _).alloc _
 have hk0 : KeptW B b w ((w.alloc (.cells #[.pointer (some ⟨b, 0, none⟩)] 131)).alloc (.cells #[.string c.num, .string c.lab, v1, v2, .bool c.block, .bool c.mark, .int .i64 c.follow, .string c.link, .int .i64 c.loops] 64)) := ((KeptW.refl _ _ _).alloc hB _).alloc (by simp; omega) _
 have S0 := hid (And.intro hw0 (And.intro hp0 (And.intro hq0 hk0)))
 clear hp0 hq0 hw0 hk0
 refine (zce B b _ c.num _ S0.out.1 (HC.out.num) (by have := HL.out; (try simp only [List.length_append]); omega) (Nat.le_trans hB S0.out.2.2.2.1.size)).mono ?_
 rintro e w1 ⟨rfl, hw, hk⟩
 have S1 := hid (And.intro hw (And.intro (hk.row S0.out.2.1 (S0.out.1.far S0.out.2.1 (by decide)) (by decide)) (And.intro (hk.row S0.out.2.2.1 (S0.out.1.far S0.out.2.2.1 (by decide)) (by decide)) (S0.out.2.2.2.trans hk))))
 clear hw hk
 obtain ⟨x1, x2, x3, x4, x5, x6⟩ := zaa S1.out.2.1
 obtain ⟨y1, y2, y3, y4, y5, y6⟩ := zaa S1.out.2.2.1
 go_wp2_with fail
 clear x1 x2 x3 x4 x5 x6 y1 y2 y3 y4 y5 y6
 refine (zce B b _ c.lab _ S1.out.1 (HC.out.lab) (by have := HL.out; (try simp only [List.length_append]); omega) (Nat.le_trans hB S1.out.2.2.2.1.size)).mono ?_
 rintro e w2 ⟨rfl, hw, hk⟩
 have S2 := hid (And.intro hw (And.intro (hk.row S1.out.2.1 (S1.out.1.far S1.out.2.1 (by decide)) (by decide)) (And.intro (hk.row S1.out.2.2.1 (S1.out.1.far S1.out.2.2.1 (by decide)) (by decide)) (S1.out.2.2.2.trans hk))))
 clear hw hk
 obtain ⟨x1, x2, x3, x4, x5, x6⟩ := zaa S2.out.2.1
 obtain ⟨y1, y2, y3, y4, y5, y6⟩ := zaa S2.out.2.2.1
 go_wp2_with fail
 clear x1 x2 x3 x4 x5 x6 y1 y2 y3 y4 y5 y6
 refine (zqj B b w.heap.size _ v1 c.moves _ S2.out.1 S2.out.2.1 (HV.out.2.1.kept S2.out.2.2.2.1) HC.out.moves (by have := HL.out; (try simp only [List.length_append]); omega) (Nat.le_trans hB S2.out.2.2.2.1.size)).mono ?_
 rintro e w3 ⟨rfl, hw, hk⟩
 have S3 := hid (And.intro hw (And.intro (hk.row S2.out.2.1 (S2.out.1.far S2.out.2.1 (by decide)) (by decide)) (And.intro (hk.row S2.out.2.2.1 (S2.out.1.far S2.out.2.2.1 (by decide)) (by decide)) (S2.out.2.2.2.trans hk))))
 clear hw hk
 obtain ⟨x1, x2, x3, x4, x5, x6⟩ := zaa S3.out.2.1
 obtain ⟨y1, y2, y3, y4, y5, y6⟩ := zaa S3.out.2.2.1
 go_wp2_with fail
 clear x1 x2 x3 x4 x5 x6 y1 y2 y3 y4 y5 y6
 refine (ztn B b w.heap.size _ v2 c.parts _ S3.out.1 S3.out.2.1 (HV.out.2.2.kept S3.out.2.2.2.1) HC.out.parts (by have := HL.out; (try simp only [List.length_append]); omega) (Nat.le_trans hB S3.out.2.2.2.1.size)).mono ?_
 rintro e w4 ⟨rfl, hw, hk⟩
 have S4 := hid (And.intro hw (And.intro (hk.row S3.out.2.1 (S3.out.1.far S3.out.2.1 (by decide)) (by decide)) (And.intro (hk.row S3.out.2.2.1 (S3.out.1.far S3.out.2.2.1 (by decide)) (by decide)) (S3.out.2.2.2.trans hk))))
 clear hw hk
 obtain ⟨x1, x2, x3, x4, x5, x6⟩ := zaa S4.out.2.1
 obtain ⟨y1, y2, y3, y4, y5, y6⟩ := zaa S4.out.2.2.1
 go_wp2_with fail
 clear x1 x2 x3 x4 x5 x6 y1 y2 y3 y4 y5 y6
 refine (zdz B b _ c.block _ S4.out.1 (by have := HL.out; (try simp only [List.length_append]); omega) (Nat.le_trans hB S4.out.2.2.2.1.size)).mono ?_
 rintro e w5 ⟨rfl, hw, hk⟩
 have S5 := hid (And.intro hw (And.intro (hk.row S4.out.2.1 (S4.out.1.far S4.out.2.1 (by decide)) (by decide)) (And.intro (hk.row S4.out.2.2.1 (S4.out.1.far S4.out.2.2.1 (by decide)) (by decide)) (S4.out.2.2.2.trans hk))))
 clear hw hk
 obtain ⟨x1, x2, x3, x4, x5, x6⟩ := zaa S5.out.2.1
 obtain ⟨y1, y2, y3, y4, y5, y6⟩ := zaa S5.out.2.2.1
 go_wp2_with fail
 clear x1 x2 x3 x4 x5 x6 y1 y2 y3 y4 y5 y6
 refine (zdz B b _ c.mark _ S5.out.1 (by have := HL.out; (try simp only [List.length_append]); omega) (Nat.le_trans hB S5.out.2.2.2.1.size)).mono ?_
 rintro e w6 ⟨rfl, hw, hk⟩
 have S6 := hid (And.intro hw (And.intro (hk.row S5.out.2.1 (S5.out.1.far S5.out.2.1 (by decide)) (by decide)) (And.intro (hk.row S5.out.2.2.1 (S5.out.1.far S5.out.2.2.1 (by decide)) (by decide)) (S5.out.2.2.2.trans hk))))
 clear hw hk
 obtain ⟨x1, x2, x3, x4, x5, x6⟩ := zaa S6.out.2.1
 obtain ⟨y1, y2, y3, y4, y5, y6⟩ := zaa S6.out.2.2.1
 go_wp2_with fail
 clear x1 x2 x3 x4 x5 x6 y1 y2 y3 y4 y5 y6
 refine (za9 B b _ c.follow _ S6.out.1 HC.out.follow (by have := HL.out; (try simp only [List.length_append]); omega) (Nat.le_trans hB S6.out.2.2.2.1.size)).mono ?_
 rintro e w7 ⟨rfl, hw, hk⟩
 have S7 := hid (And.intro hw (And.intro (hk.row S6.out.2.1 (S6.out.1.far S6.out.2.1 (by decide)) (by decide)) (And.intro (hk.row S6.out.2.2.1 (S6.out.1.far S6.out.2.2.1 (by decide)) (by decide)) (S6.out.2.2.2.trans hk))))
 clear hw hk
 obtain ⟨x1, x2, x3, x4, x5, x6⟩ := zaa S7.out.2.1
 obtain ⟨y1, y2, y3, y4, y5, y6⟩ := zaa S7.out.2.2.1
 go_wp2_with fail
 clear x1 x2 x3 x4 x5 x6 y1 y2 y3 y4 y5 y6
 refine (zce B b _ c.link _ S7.out.1 (HC.out.link) (by have := HL.out; (try simp only [List.length_append]); omega) (Nat.le_trans hB S7.out.2.2.2.1.size)).mono ?_
 rintro e w8 ⟨rfl, hw, hk⟩
 have S8 := hid (And.intro hw (And.intro (hk.row S7.out.2.1 (S7.out.1.far S7.out.2.1 (by decide)) (by decide)) (And.intro (hk.row S7.out.2.2.1 (S7.out.1.far S7.out.2.2.1 (by decide)) (by decide)) (S7.out.2.2.2.trans hk))))
 clear hw hk
 obtain ⟨x1, x2, x3, x4, x5, x6⟩ := zaa S8.out.2.1
 obtain ⟨y1, y2, y3, y4, y5, y6⟩ := zaa S8.out.2.2.1
 go_wp2_with fail
 clear x1 x2 x3 x4 x5 x6 y1 y2 y3 y4 y5 y6
 refine (za9 B b _ c.loops _ S8.out.1 HC.out.loops (by have := HL.out; (try simp only [List.length_append]); omega) (Nat.le_trans hB S8.out.2.2.2.1.size)).mono ?_
 rintro e w9 ⟨rfl, hw, hk⟩
 have S9 := hid (And.intro hw (And.intro (hk.row S8.out.2.1 (S8.out.1.far S8.out.2.1 (by decide)) (by decide)) (And.intro (hk.row S8.out.2.2.1 (S8.out.1.far S8.out.2.2.1 (by decide)) (by decide)) (S8.out.2.2.2.trans hk))))
 clear hw hk
 go_wp2
 (first | go_end0 | refine bodyPost_ret (results_none rfl _ _ _) rfl ?_)
 exact ⟨rfl, by have := S9.out.1; simpa [cueB, List.append_assoc] using this, S9.out.2.2.2⟩
theorem zfo (K : Nat) (x : Value) (out : List UInt8) (w : World) (h0 : out ≠ []) (he : ∀ args W, (callFunc K args).run Tryz.prog W = .ok (.enter K args) W)
  (F : ∀ (b : Nat) (W : World), Wtr w.heap.size b [] W → Below w.heap.size w W → Calls Tryz.prog K #[.pointer (some ⟨b, 0, none⟩), x] W fun e w' => e = .returned (.tuple #[]) ∧ Wtr w.heap.size b out w' ∧ KeptW w.heap.size b W w') :
  Calls Tryz.prog 69 #[.func (.func K) #[] #[x]] w fun e w' => e = .returned (.string (str out)) ∧ Below w.heap.size w w' := by
 have hf : Wtr w.heap.size w.heap.size [] (w.alloc (.cells #[.pointer none, .slice none 0 0] 230)) := Lib.IsBuilderF.of (Lib.fresh_isBuilder 230 5 w)
 have HF := hid (And.intro hf F)
 clear F hf
 go_enter Tryz.func69, Tryz.ntmps69
 go_wp2_with fail
 refine (HF.out.2 _ _ HF.out.1 bel).mono ?_
 rintro e w1 ⟨rfl, hw, hk⟩
 have HW := hid hw
 clear hw
 go_wp2_with fail
 refine (zoo _ _ _ _ HW.out h0).mono ?_
 rintro e w2 ⟨rfl, hb2⟩
 go_wp2
 go_ret
 exact ⟨rfl, (((Below.refl _ _).alloc (Nat.le_refl _) _).trans hk.1).trans hb2⟩
theorem zix (c : CueD) : cueB c ≠ [] := by
 have := zd3 (zig c.loops)
 intro h
 have h2 := congrArg List.length h
 simp only [cueB, List.length_append, List.length_nil] at h2
 unfold intB at h2
 omega
def cueA (c : CueD) (v1 v2 : Value) : Array Value := #[.string c.num, .string c.lab, v1, v2, .bool c.block, .bool c.mark, .int .i64 c.follow, .string c.link, .int .i64 c.loops]
structure CueAt (w : World) (v1 v2 : Value) (c : CueD) : Prop where
 moves : ListAt 5 mvA w v1 c.moves
 parts : ListAt 6 timA w v2 c.parts
theorem CueAt.run {w w' : World} {v1 v2 : Value} {c : CueD} (h : CueAt w v1 v2 c) (hb : Below w.heap.size w w') : CueAt w' v1 v2 c := ⟨h.moves.run hb, h.parts.run hb⟩
theorem znj (B b q : Nat) (c : CueD) (v1 v2 : Value) (w : World) (h : Wtr B b [] w) (hq : RowAt w q 64 (cueA c v1 v2)) (hv1 : LowAt B 5 mvA w v1 c.moves) (hv2 : LowAt B 6 timA w v2 c.parts) (hc : Cue64 c) (hlen : (cueB c).length ≤ 140737488355328) (hB : B ≤ w.heap.size) :
  Calls Tryz.prog 70 #[.pointer (some ⟨b, 0, none⟩), .pointer (some ⟨q, 0, none⟩)] w fun e w' => e = .returned (.tuple #[]) ∧ Wtr B b (cueB c) w' ∧ KeptW B b w w' := by
 have C := hid (zkz B b [] c v1 v2 w h hv1 hv2 hc (by simpa using hlen) hB)
 obtain ⟨x1, x2, x3, x4, x5, x6⟩ := zaa hq
 simp only [cueA] at x1
 clear hlen hc h hv1 hv2
 go_enter Tryz.func70, Tryz.ntmps70
 go_wp2_with fail
 refine C.out.mono ?_
 rintro e w1 ⟨rfl, hw, hk⟩
 go_wp2
 (first | go_end0 | refine bodyPost_ret (results_none rfl _ _ _) rfl ?_)
 exact ⟨rfl, hw, hk⟩
theorem zjd (ch at_ : Int) (w : World) :
  Calls Tryz.prog 291 #[.agg #[.int .i64 ch, .int .i64 at_]] w fun e w' => e = .returned (.int .i64 (parE ch at_)) ∧ Below w.heap.size w w' := by
 go_enter Tryz.func291, Tryz.ntmps291
 go_wp2
 all_goals go_ret
 all_goals exact ⟨zab (by grind [parE]), bel⟩
theorem zjf (ch at_ : Int) (w : World) :
  Calls Tryz.prog 257 #[.agg #[.int .i64 ch, .int .i64 at_]] w fun e w' => e = .returned (.int .i64 (parE ch at_)) ∧ Below w.heap.size w w' := by
 go_enter Tryz.func257, Tryz.ntmps257
 go_wp2
 all_goals go_ret
 all_goals exact ⟨zab (by grind [parE]), bel⟩
def lev16 (v : Int) : Bool := decide (0 ≤ v ∧ v ≤ 65535)
theorem zh5 (v : Int) (w : World) : Calls Tryz.prog 310 #[.int .i64 v] w fun e w' => e = .returned (.bool (lev16 v)) ∧ w = w' := by
 go_enter Tryz.func310, Tryz.ntmps310
 go_wp2
 all_goals go_ret
 all_goals exact ⟨zac (by grind [lev16]), rfl⟩
theorem zb7 (v : Int) (w : World) : Calls Tryz.prog 282 #[.int .i64 v] w fun e w' => e = .returned (.bool (lev16 v)) ∧ w = w' := by
 go_enter Tryz.func282, Tryz.ntmps282
 go_wp2
 all_goals go_ret
 all_goals exact ⟨zac (by grind [lev16]), rfl⟩
theorem zhl (pal lev : Int) (w : World) :
   Calls Tryz.prog 292 #[.agg #[.int .i64 pal, .int .i64 lev]] w fun e w' => e = .returned (.int .i64 (valE pal lev)) ∧ Below w.heap.size w w' := by
 obtain ⟨q, hq⟩ : ∃ q, lev16 lev = q := ⟨_, rfl⟩
 have C := fun W => zh5 lev W
 rw [hq] at C
 have HC := hid C
 have HQ := hid hq
 clear C hq
 by_cases h0 : pal = 0
 · subst h0
   cases q with
   | true =>
     go_enter Tryz.func292, Tryz.ntmps292
     go_wp2_with fail
     refine (HC.out _).mono ?_
     rintro e w1 ⟨rfl, rfl⟩
     go_wp2
     all_goals go_ret
     all_goals exact ⟨zab (by have := HQ.out; grind [valE, lev16]), bel⟩
   | false =>
     go_enter Tryz.func292, Tryz.ntmps292
     go_wp2_with fail
     refine (HC.out _).mono ?_
     rintro e w1 ⟨rfl, rfl⟩
     go_wp2
     all_goals go_ret
     all_goals exact ⟨zab (by have := HQ.out; grind [valE, lev16]), bel⟩
 have h1 : (pal == 0) = false := by simpa using h0
 have h2 : (pal != 0) = true := by simpa using h0
 go_enter Tryz.func292, Tryz.ntmps292
 go_wp2
 all_goals go_ret
 all_goals exact ⟨zab (by have := HQ.out; grind [valE, lev16]), bel⟩
theorem zwp (pal lev : Int) (w : World) :
   Calls Tryz.prog 258 #[.agg #[.int .i64 pal, .int .i64 lev]] w fun e w' => e = .returned (.int .i64 (valE pal lev)) ∧ Below w.heap.size w w' := by
 obtain ⟨q, hq⟩ : ∃ q, lev16 lev = q := ⟨_, rfl⟩
 have C := fun W => zb7 lev W
 rw [hq] at C
 have HC := hid C
 have HQ := hid hq
 clear C hq
 by_cases h0 : pal = 0
 · subst h0
   cases q with
   | true =>
     go_enter Tryz.func258, Tryz.ntmps258
     go_wp2_with fail
     refine (HC.out _).mono ?_
     rintro e w1 ⟨rfl, rfl⟩
     go_wp2
     all_goals go_ret
     all_goals exact ⟨zab (by have := HQ.out; grind [valE, lev16]), bel⟩
   | false =>
     go_enter Tryz.func258, Tryz.ntmps258
     go_wp2_with fail
     refine (HC.out _).mono ?_
     rintro e w1 ⟨rfl, rfl⟩
     go_wp2
     all_goals go_ret
     all_goals exact ⟨zab (by have := HQ.out; grind [valE, lev16]), bel⟩
 have h1 : (pal == 0) = false := by simpa using h0
 have h2 : (pal != 0) = true := by simpa using h0
 go_enter Tryz.func258, Tryz.ntmps258
 go_wp2
 all_goals go_ret
 all_goals exact ⟨zab (by have := HQ.out; grind [valE, lev16]), bel⟩
theorem zeo {c a : Int} (h : parE c a = 0) : 1 ≤ c ∧ c ≤ 999 ∧ 0 ≤ a ∧ a ≤ 14 := by
 unfold parE at h
 split at h
 · cases h
 omega
theorem zui (c1 a1 c2 a2 : Int) (w : World) (h1 : parE c1 a1 = 0) (h2 : parE c2 a2 = 0) :
   Calls Tryz.prog 293 #[.agg #[.int .i64 c1, .int .i64 a1], .agg #[.int .i64 c2, .int .i64 a2]] w fun e w' => (∃ n, e = .returned (.int .i64 n) ∧ Hid (decide (0 ≤ n) = !befP c1 a1 c2 a2)) ∧ Below w.heap.size w w' := by
 obtain ⟨p1, p2, p3, p4⟩ := zeo h1
 obtain ⟨q1, q2, q3, q4⟩ := zeo h2
 clear h1 h2
 by_cases he : c1 = c2
 · subst he
   have e1 : (c1 != c1) = false := by simp
   go_enter Tryz.func293, Tryz.ntmps293
   go_wp2
   go_ret
   exact ⟨⟨_, rfl, hid (by rw [Bool.eq_iff_iff]; simp [befP] <;> omega)⟩, bel⟩
 have e1 : (c1 != c2) = true := by simpa using he
 go_enter Tryz.func293, Tryz.ntmps293
 go_wp2
 go_ret
 exact ⟨⟨_, rfl, hid (by rw [Bool.eq_iff_iff]; simp [befP] <;> omega)⟩, bel⟩
theorem zfl (c1 a1 c2 a2 : Int) (w : World) :
  Calls Tryz.prog 259 #[.agg #[.int .i64 c1, .int .i64 a1], .agg #[.int .i64 c2, .int .i64 a2]] w fun e w' => e = .returned (.bool (befP c1 a1 c2 a2)) ∧ Below w.heap.size w w' := by
 go_enter Tryz.func259, Tryz.ntmps259
 go_wp2
 all_goals go_ret
 all_goals exact ⟨zac (by grind [befP]), bel⟩
theorem zg6 {w : World} {b T : Nat} {cs : Array Value} (h : RowAt w b T cs) (o : Nat) : w.cell? ⟨b, o, none⟩ = cs[o]? := (zaa h).1 o
theorem zi1 {α : Type} (l : List α) (k : Nat) : prevOf l (k + 1) = l[k]? := by simp [prevOf]
theorem zv4 {p : Option Mv} {m : Mv} (h : mvE p m = 0) : parE m.ch m.at_ = 0 := by
 unfold mvE at h
 split at h
 · cases h
 rename_i h1
 exact Decidable.not_not.1 h1
theorem zch {w : World} {b off : Nat} {l : List Mv} (hc : ∀ j, j < l.length * 5 → w.cell? ⟨b, off + j, none⟩ = genC 5 mvA l j) (k : Nat) (d : Mv) (hd : l[k]? = some d) :
  w.cell? ⟨b, off + k * 5, none⟩ = some (.int .i64 d.ch) ∧ w.cell? ⟨b, off + k * 5 + 1, none⟩ = some (.int .i64 d.at_) ∧ w.cell? ⟨b, off + k * 5 + 2, none⟩ = some (.int .i64 d.pal) ∧ w.cell? ⟨b, off + k * 5 + 3, none⟩ = some (.int .i64 d.lev) ∧ w.cell? ⟨b, off + k * 5 + 4, none⟩ = some (.int .i64 d.part) := by
 obtain ⟨hk, hdk⟩ := List.getElem?_eq_some_iff.1 hd
 have g := fun i hi => za2 (S := 5) (f := mvA) (by decide) hc k hk i hi
 rw [hdk] at g
 exact ⟨g 0 (by decide), g 1 (by decide), g 2 (by decide), g 3 (by decide), g 4 (by decide)⟩
theorem zuf (m : Mv) (a : Option Addr) (cap : Nat) (w : World) :
   Calls Tryz.prog 252 #[.agg #[.int .i64 m.ch, .int .i64 m.at_, .int .i64 m.pal, .int .i64 m.lev, .int .i64 m.part], .slice a 0 cap] w fun e w' => e = .returned (.int .i64 (mvE none m)) ∧ Below w.heap.size w w' := by
 have C1 := fun W => zjd m.ch m.at_ W
 have C2 := fun W => zhl m.pal m.lev W
 by_cases h1 : parE m.ch m.at_ = 0
 · rw [h1] at C1
   by_cases h2 : valE m.pal m.lev = 0
   · rw [h2] at C2
     have H1 := hid C1
     have H2 := hid C2
     have HQ := hid (And.intro h1 h2)
     clear C1 C2 h1 h2
     go_enter Tryz.func252, Tryz.ntmps252
     go_wp2_with fail
     refine (H1.out _).mono ?_
     rintro e w1 ⟨rfl, hb1⟩
     have hr : RowAt w1 w.heap.size 237 #[.int .i64 m.ch, .int .i64 m.at_, .int .i64 m.pal, .int .i64 m.lev, .int .i64 m.part] := rwt; obtain ⟨hra, hrb, hrc, hrd, hre, hrf⟩ := zaa hr
     go_wp2_with fail
     refine (H2.out _).mono ?_
     rintro e w2 ⟨rfl, hb2⟩
     have hs : RowAt w2 w.heap.size 237 #[.int .i64 m.ch, .int .i64 m.at_, .int .i64 m.pal, .int .i64 m.lev, .int .i64 m.part] := rwt; obtain ⟨hsa, hsb, hsc, hsd, hse, hsf⟩ := zaa hs
     clear hra hr
     go_wp2
     all_goals (try go_quiet (fail))
     all_goals go_wp2
     all_goals go_ret
     all_goals exact ⟨zab (by have := HQ.out; grind [mvE]), bel⟩
   have h3 : (valE m.pal m.lev != 0) = true := by simpa using h2
   have hv2 : valE m.pal m.lev = 2 := by grind [valE]
   rw [hv2] at C2
   have H1 := hid C1
   have H2 := hid C2
   have HQ := hid (And.intro h1 hv2)
   clear C1 C2 h1 h2 h3 hv2
   go_enter Tryz.func252, Tryz.ntmps252
   go_wp2_with fail
   refine (H1.out _).mono ?_
   rintro e w1 ⟨rfl, hb1⟩
   have hr : RowAt w1 w.heap.size 237 #[.int .i64 m.ch, .int .i64 m.at_, .int .i64 m.pal, .int .i64 m.lev, .int .i64 m.part] := rwt; obtain ⟨hra, hrb, hrc, hrd, hre, hrf⟩ := zaa hr
   go_wp2_with fail
   refine (H2.out _).mono ?_
   rintro e w2 ⟨rfl, hb2⟩
   go_wp2
   all_goals go_ret
   all_goals exact ⟨zab (by have := HQ.out; grind [mvE]), bel⟩
 have hv2 : parE m.ch m.at_ = 2 := by grind [parE]
 rw [hv2] at C1
 have H1 := hid C1
 have HQ := hid hv2
 clear C1 C2 h1 hv2
 go_enter Tryz.func252, Tryz.ntmps252
 go_wp2_with fail
 refine (H1.out _).mono ?_
 rintro e w1 ⟨rfl, hb1⟩
 go_wp2
 all_goals go_ret
 all_goals exact ⟨zab (by have := HQ.out; grind [mvE]), bel⟩
theorem znu (m q : Mv) (b off j cap : Nat) (w : World) (hb : b < w.heap.size) (hj : j < 1000) (hq : parE q.ch q.at_ = 0) (e0 : w.cell? ⟨b, off + j * 5, none⟩ = some (.int .i64 q.ch)) (e1 : w.cell? ⟨b, off + j * 5 + 1, none⟩ = some (.int .i64 q.at_)) :
   Calls Tryz.prog 252 #[.agg #[.int .i64 m.ch, .int .i64 m.at_, .int .i64 m.pal, .int .i64 m.lev, .int .i64 m.part], .slice (some ⟨b, off, none⟩) (j + 1) cap] w fun e w' => e = .returned (.int .i64 (mvE (some q) m)) ∧ Below w.heap.size w w' := by
 have C1 := fun W => zjd m.ch m.at_ W
 have C2 := fun W => zhl m.pal m.lev W
 by_cases h1 : parE m.ch m.at_ = 0
 · rw [h1] at C1
   by_cases h2 : valE m.pal m.lev = 0
   · rw [h2] at C2
     have H1 := hid C1
     have H2 := hid C2
     have H3 := hid (fun W => zui q.ch q.at_ m.ch m.at_ W hq h1)
     have HQ := hid (And.intro h1 h2)
     have hj0 : (0 : Int) < (j : Int) + 1 := by omega
     have hj1 : (j : Int) + 1 - 1 = (j : Int) := by omega
     have hj2 : (j : Int) < 1000 := by omega
     have hj3 : IntKind.i64.wrap ((j : Int) + 1 - 1) = (j : Int) := by rw [hj1]; exact IntWalk.i64_in _ (by omega)
     have hj4 : (0 : Int) ≤ (j : Int) ∧ (j : Int) < (j : Int) + 1 := by omega
     have hj5 : (0 : Int) ≤ (j : Int) := by omega
     have hj6 : (j : Int) < (j : Int) + 1 := by omega
     have hj7 : IntKind.i64.wrap (j : Int) = (j : Int) := IntWalk.i64_in _ (by omega)
     have HE := hid (And.intro e0 e1)
     clear C1 C2 h1 h2 hq e0 e1
     go_enter Tryz.func252, Tryz.ntmps252
     go_wp2_with fail
     refine (H1.out _).mono ?_
     rintro e w1 ⟨rfl, hb1⟩
     have hr : RowAt w1 w.heap.size 237 #[.int .i64 m.ch, .int .i64 m.at_, .int .i64 m.pal, .int .i64 m.lev, .int .i64 m.part] := rwt; obtain ⟨hra, hrb, hrc, hrd, hre, hrf⟩ := zaa hr
     go_wp2_with fail
     refine (H2.out _).mono ?_
     rintro e w2 ⟨rfl, hb2⟩
     have hs : RowAt w2 w.heap.size 237 #[.int .i64 m.ch, .int .i64 m.at_, .int .i64 m.pal, .int .i64 m.lev, .int .i64 m.part] := rwt; obtain ⟨hsa, hsb, hsc, hsd, hse, hsf⟩ := zaa hs
     have hbw : Below w.heap.size w w2 := bel
     have hb9 : b < w2.heap.size := by have := hbw.size; omega
     have d0 := (hbw.cell (p := ⟨b, off + j * 5, none⟩) hb).trans HE.out.1
     have d1 := (hbw.cell (p := ⟨b, off + j * 5 + 1, none⟩) hb).trans HE.out.2
     have HK := hid (fun (W : World) (hb5 : Below w2.heap.size w2 W) => (And.intro ((hb5.cell (p := ⟨b, off + j * 5, none⟩) hb9).trans d0) (And.intro ((hb5.cell (p := ⟨b, off + j * 5 + 1, none⟩) hb9).trans d1) (And.intro (zg6 (hs.run hb5) 0) (zg6 (hs.run hb5) 1)))))
     clear hra hr
     go_wp2
     all_goals (first | (go_ret; exact ⟨zab (by have := HQ.out; grind [mvE]), bel⟩) | skip)
     all_goals (go_region_held3 (fun w' => w'.cell? ⟨b, off + j * 5, none⟩ = some (.int .i64 q.ch) ∧ w'.cell? ⟨b, off + j * 5 + 1, none⟩ = some (.int .i64 q.at_) ∧ w'.cell? ⟨w.heap.size, 0, none⟩ = some (.int .i64 m.ch) ∧ w'.cell? ⟨w.heap.size, 1, none⟩ = some (.int .i64 m.at_)) (first | exact HK.out _ bel | go_keep) ((go_at_call 293; refine (H3.out _).mono ?_; rintro e w4 ⟨⟨r, rfl, hn⟩, hb4⟩)))
     all_goals go_wp2
     all_goals go_ret
     all_goals exact ⟨zab (by have := HQ.out; first | (have := hn.out; grind [mvE]) | grind [mvE]), bel⟩
   have hv2 : valE m.pal m.lev = 2 := by grind [valE]
   rw [hv2] at C2
   have H1 := hid C1
   have H2 := hid C2
   have HQ := hid (And.intro h1 hv2)
   clear C1 C2 h1 h2 hv2 hq e0 e1
   go_enter Tryz.func252, Tryz.ntmps252
   go_wp2_with fail
   refine (H1.out _).mono ?_
   rintro e w1 ⟨rfl, hb1⟩
   have hr : RowAt w1 w.heap.size 237 #[.int .i64 m.ch, .int .i64 m.at_, .int .i64 m.pal, .int .i64 m.lev, .int .i64 m.part] := rwt; obtain ⟨hra, hrb, hrc, hrd, hre, hrf⟩ := zaa hr
   go_wp2_with fail
   refine (H2.out _).mono ?_
   rintro e w2 ⟨rfl, hb2⟩
   go_wp2
   all_goals go_ret
   all_goals exact ⟨zab (by have := HQ.out; grind [mvE]), bel⟩
 have hv2 : parE m.ch m.at_ = 2 := by grind [parE]
 rw [hv2] at C1
 have H1 := hid C1
 have HQ := hid hv2
 clear C1 C2 h1 hv2 hq e0 e1
 go_enter Tryz.func252, Tryz.ntmps252
 go_wp2_with fail
 refine (H1.out _).mono ?_
 rintro e w1 ⟨rfl, hb1⟩
 go_wp2
 all_goals go_ret
 all_goals exact ⟨zab (by have := HQ.out; grind [mvE]), bel⟩
def CapOk (v : Value) : Prop := ∀ a n cap, v = .slice a n cap → n ≤ cap
theorem zmd (p : Option Mv) (m : Mv) : mvE p m = 0 ∨ mvE p m = 2 ∨ mvE p m = 9 := by
 unfold mvE
 split
 · simp
 split
 · simp
 split
 · simp
 split
 · simp
 split <;> simp
theorem zmw (v : Value) (l : List Mv) (w : World) (hv : ListAt 5 mvA w v l) (hcap : CapOk v) :
   Calls Tryz.prog 157 #[v] w fun e w' => e = .returned (.int .i64 (movesE l)) ∧ Below w.heap.size w w' := by
 rcases hv with ⟨h0, a, cap, rfl⟩ | ⟨h0, h1, b, off, cap, rfl, hlt, hc⟩
 · have hl : l = [] := List.eq_nil_of_length_eq_zero h0
   subst hl
   clear hcap
   go_enter Tryz.func157, Tryz.ntmps157
   go_wp2
   refine wp_loop_rounds 1 ?_
   rw [rounds_succ]
   go_wp2
   go_ret
   exact ⟨rfl, bel⟩
 have hcp : l.length ≤ cap := hcap _ _ _ rfl
 clear hcap
 by_cases h2 : l.length ≤ 128
 · have h3 : (l.length : Int) ≤ 128 := by omega
   have h4 : (0 : Int) < (l.length : Int) := by omega
   have hcp2 : (l.length : Int) ≤ (cap : Int) := by omega
   have hME : movesE l = firstE (mvAtE l) 0 (l.length - 0) := by rw [movesE, if_neg (by omega)]; rfl
   have HM := hid hME
   clear hME
   go_enter Tryz.func157, Tryz.ntmps157
   go_wp2
   go_loopw [3, 4, 5, 11] (fun _ _ _ i wr => ∃ k : Nat, k ≤ l.length ∧ i = .int .i64 k ∧ Hid (movesE l = firstE (mvAtE l) k (l.length - k) ∧ ∀ j, j < k → mvAtE l j = 0) ∧ Below w.heap.size w wr) (fun _ _ _ i _ => l.length - (intOf i).toNat)
   case atStart => exact ⟨0, Nat.zero_le _, rfl, hid ⟨HM.out, fun j h => by omega⟩, Below.refl _ _⟩
   case round =>
    obtain ⟨k, hk, rfl, hf, hb0⟩ := hrel
    by_cases hlt2 : k < l.length
    · have hlt3 : (k : Int) < (l.length : Int) := by omega
      have hkc : (k : Int) ≤ (cap : Int) := by omega
      have hc' : ∀ j, j < l.length * 5 → wr.cell? ⟨b, off + j, none⟩ = genC 5 mvA l j := fun j hj => (hb0.cell (p := ⟨b, off + j, none⟩) hlt).trans (hc j hj)
      have hbs := hb0.size
      have hbr : b < wr.heap.size := by omega
      obtain ⟨d, hd⟩ : ∃ d, l[k]? = some d := ⟨_, List.getElem?_eq_getElem hlt2⟩
      obtain ⟨e0, e1, e2, e3, e4⟩ := zch hc' k d hd
      obtain ⟨r, hr⟩ : ∃ r, mvAtE l k = r := ⟨_, rfl⟩
      have hrr : mvE (prevOf l k) d = r := by rw [← hr, mvAtE, hd]
      have hnew : ∀ W, Below wr.heap.size wr W → Calls Tryz.prog 252 #[.agg #[.int .i64 d.ch, .int .i64 d.at_, .int .i64 d.pal, .int .i64 d.lev, .int .i64 d.part], .slice (some ⟨b, off, none⟩) k cap] W fun e w' => e = .returned (.int .i64 r) ∧ Below W.heap.size W w' := by
        intro W hb
        rw [← hrr]
        cases k with
        | zero => exact zuf d _ _ W
        | succ j =>
          rw [zi1]
          obtain ⟨q, hq⟩ : ∃ q, l[j]? = some q := ⟨_, List.getElem?_eq_getElem (by omega)⟩
          rw [hq]
          obtain ⟨g0, g1, _⟩ := zch hc' j q hq
          have hz := hf.out.2 j (by omega)
          rw [mvAtE, hq] at hz
          exact znu d q b off j cap W (by have := hb.size; omega) (by omega) (zv4 hz) ((hb.cell (p := ⟨b, off + j * 5, none⟩) hbr).trans g0) ((hb.cell (p := ⟨b, off + j * 5 + 1, none⟩) hbr).trans g1)
      have HN := hid hnew
      have HR := hid hr
      have hvals : r = 0 ∨ r = 2 ∨ r = 9 := by rw [← hrr]; exact zmd _ _
      have hk0 : (0 : Int) ≤ (k : Int) := by omega
      have HB := hid hb0
      clear hnew hr hrr hc' hc hd hb0 HM
      go_wp2
      obtain ⟨Z, hZ⟩ : ∃ Z, wr.alloc (.cells #[.int .i64 d.ch, .int .i64 d.at_, .int .i64 d.pal, .int .i64 d.lev, .int .i64 d.part] 237) = Z := ⟨_, rfl⟩
      have hbZ : Below wr.heap.size wr Z.drew := by rw [← hZ]; exact bel
      have hrZ : RowAt Z wr.heap.size 237 #[.int .i64 d.ch, .int .i64 d.at_, .int .i64 d.pal, .int .i64 d.lev, .int .i64 d.part] := by rw [← hZ]; exact RowAt.new _ _ _
      obtain ⟨z1, z2, z3, z4, z5, z6⟩ := zaa hrZ
      rw [hZ]
      have HNZ := hid (HN.out _ hbZ)
      have HBZ := hid hbZ
      clear hZ hbZ hrZ HN e0 e1 e2 e3 e4
      go_still_tail 4, (by kernel_rfl)
      go_wp2_with fail
      refine HNZ.out.mono ?_
      rintro e w4 ⟨rfl, hb4⟩
      have hbw4 : Below w.heap.size w w4 := HB.out.trans ((zag HBZ.out (by have := HBZ.out.size; simpa using this) hb4).mono hbs)
      have HB4 := hid hbw4
      clear hb4 hbw4
      by_cases hr0 : r = 0
      · subst hr0
        go_wp2
        go_roundw
        case rel => exact ⟨k + 1, by omega, by go_num, hid ⟨hf.out.1.trans (zcc hlt2 HR.out), fun j hj => by
          by_cases e : j = k
          · subst e; exact HR.out
          exact hf.out.2 j (by omega)⟩, HB4.out⟩
        case measure => simp [intOf]; omega
      have hr1 : (r != 0) = true := by simpa using hr0
      go_wp2
      go_ret
      exact ⟨zab (by rw [hf.out.1, zb8 hlt2 (by rw [HR.out]; exact hr0), HR.out]), HB4.out⟩
    obtain rfl : k = l.length := by omega
    go_wp2
    go_ret
    exact ⟨zab (by rw [hf.out.1, zfw]), hb0⟩
 have h3 : 128 < (l.length : Int) := by omega
 go_enter Tryz.func157, Tryz.ntmps157
 go_wp2
 go_ret
 exact ⟨zab (by rw [movesE, if_pos (by omega)]), bel⟩
section
variable {α β : Type} {S : Nat}
theorem ListAt.at_ {f : α → Array Value} {w : World} {v : Value} {l : List α} (hS : 0 < S) (h : ListAt S f w v l) {k : Nat} {d : α} (hd : l[k]? = some d) :
  ∃ g off cap, v = .slice (some ⟨g, off, none⟩) l.length cap ∧ g < w.heap.size ∧ ∀ W, Below w.heap.size w W → ∀ i, i < S → W.cell? ⟨g, off + k * S + i, none⟩ = (f d)[i]? := by
 have hk := (List.getElem?_eq_some_iff.1 hd).1
 rcases h with ⟨h0, _⟩ | ⟨h0, h1, b, off, cap, rfl, hlt, hc⟩
 · omega
 refine ⟨b, off, cap, rfl, hlt, fun W hW i hi => ?_⟩
 rw [hW.cell (p := ⟨b, off + k * S + i, none⟩) hlt, za2 hS hc k hk i hi]
 rw [List.getElem?_eq_getElem hk] at hd
 cases hd
 rfl
def Stable {γ : Type} (R : World → γ → Prop) : Prop := ∀ w W x, Below w.heap.size w W → R w x → R W x
def RL (S : Nat) (f : α × β → Array Value) (R : World → α × β → Prop) (w : World) (v : Value) (l : List α) : Prop :=
 ∃ xs : List (α × β), xs.map (·.1) = l ∧ ListAt S f w v xs ∧ ∀ x ∈ xs, R w x
variable {f : α × β → Array Value} {R : World → α × β → Prop}
theorem RL.shape {w : World} {v : Value} {l : List α} (h : RL S f R w v l) : ∃ a cap, v = .slice a l.length cap := by
 obtain ⟨xs, rfl, h1, _⟩ := h
 obtain ⟨a, cap, e⟩ := h1.shape
 exact ⟨a, cap, by rw [e, List.length_map]⟩
theorem RL.few {w : World} {v : Value} {l : List α} (h : RL S f R w v l) : l.length ≤ 140737488351232 := by
 obtain ⟨xs, rfl, h1, _⟩ := h
 rw [List.length_map]
 exact h1.few
theorem RL.run (hR : Stable R) {w W : World} {v : Value} {l : List α} (h : RL S f R w v l) (hb : Below w.heap.size w W) : RL S f R W v l := by
 obtain ⟨xs, e, h1, h2⟩ := h
 exact ⟨xs, e, h1.run hb, fun x hx => hR _ _ _ hb (h2 x hx)⟩
theorem RL.at_ (hS : 0 < S) (hR : Stable R) {w : World} {v : Value} {l : List α} (h : RL S f R w v l) {k : Nat} {d : α} (hd : l[k]? = some d) :
  ∃ y g off cap, v = .slice (some ⟨g, off, none⟩) l.length cap ∧ g < w.heap.size ∧ ∀ W, Below w.heap.size w W → (∀ i, i < S → W.cell? ⟨g, off + k * S + i, none⟩ = (f (d, y))[i]?) ∧ R W (d, y) := by
 obtain ⟨xs, rfl, h1, h2⟩ := h
 rw [List.getElem?_map] at hd
 obtain ⟨⟨d', y⟩, hx, rfl⟩ := Option.map_eq_some_iff.1 hd
 obtain ⟨g, off, cap, e, hg, hc⟩ := h1.at_ hS hx
 exact ⟨y, g, off, cap, by rw [e, List.length_map], hg, fun W hW => ⟨hc W hW, hR _ _ _ hW (h2 _ (List.mem_of_getElem? hx))⟩⟩
theorem ListAt.take {f : α → Array Value} {w : World} {a : Option Addr} {cap : Nat} {l : List α} (h : ListAt S f w (.slice a l.length cap) l) {k : Nat} (hk : k ≤ l.length) : ListAt S f w (.slice a k cap) (l.take k) := by
 have hl : (l.take k).length = k := by rw [List.length_take]; omega
 by_cases h0 : k = 0
 · subst h0
   exact .inl ⟨by simp, _, _, rfl⟩
 rcases h with ⟨h1, _⟩ | ⟨h1, h2, b, off, cap', e, hlt, hc⟩
 · omega
 cases e
 refine .inr ⟨by omega, by omega, b, off, cap, by rw [hl], hlt, fun j hj => ?_⟩
 rw [hl] at hj
 have hj2 : j < l.length * S := Nat.lt_of_lt_of_le hj (Nat.mul_le_mul_right S hk)
 rw [hc j hj2, genC, genC, List.getElem?_take_of_lt]
 exact Nat.div_lt_of_lt_mul (by rw [Nat.mul_comm]; exact hj)
theorem RL.take {f : α × β → Array Value} {R : World → α × β → Prop} {w : World} {a : Option Addr} {cap : Nat} {l : List α} (h : RL S f R w (.slice a l.length cap) l) {k : Nat} (hk : k ≤ l.length) : RL S f R w (.slice a k cap) (l.take k) := by
 obtain ⟨xs, rfl, h1, h2⟩ := h
 rw [List.length_map] at hk h1
 exact ⟨xs.take k, by rw [List.map_take], h1.take hk, fun x hx => h2 x (List.mem_of_mem_take hx)⟩
theorem RL.nil (w : World) (a : Option Addr) (cap : Nat) : RL S f R w (.slice a 0 cap) ([] : List α) := ⟨[], rfl, .inl ⟨rfl, _, _, rfl⟩, fun x hx => by cases hx⟩
end
def ptA (d : Pt) : Array Value := #[.int .i64 d.1, .int .i64 d.2]
def slotA (d : SlotD) : Array Value := #[.string d.name, .int .i64 d.lo, .int .i64 d.hi]
def featA (x : FeatD × Value) : Array Value := #[.int .i64 x.1.attr, .int .i64 x.1.bits, .int .i64 x.1.coarse, .int .i64 x.1.fine, .int .i64 x.1.curve, .int .i64 x.1.home, .int .i64 x.1.low, .int .i64 x.1.high, .bool x.1.snap, x.2]
def RFeat (w : World) (x : FeatD × Value) : Prop := ListAt 3 slotA w x.2 x.1.wheel ∧ CapOk x.2 ∧ ∀ s ∈ x.1.wheel, s.name.size ≤ 9223372036854775806
def profA (x : ProfD × Value) : Array Value := #[.string x.1.name, .int .i64 x.1.foot, .int .i64 x.1.watts, x.2]
def RProf (w : World) (x : ProfD × Value) : Prop := RL 10 featA RFeat w x.2 x.1.feats ∧ CapOk x.2 ∧ x.1.name.size ≤ 9223372036854775806
def curveA (x : List Pt × Value) : Array Value := #[x.2]
def RCurve (w : World) (x : List Pt × Value) : Prop := ListAt 2 ptA w x.2 x.1
def fixA (d : FixD) : Array Value := #[.int .i64 d.ch, .int .i64 d.part, .string d.prof, .int .i64 d.uni, .int .i64 d.addr, .int .i64 d.phase, .string d.cable]
def intC (n : Int) : Array Value := #[.int .i64 n]
def grpA (x : GrpD × Value) : Array Value := #[.int .i64 x.1.num, x.2]
def RGrp (w : World) (x : GrpD × Value) : Prop := ListAt 1 intC w x.2 x.1.chs ∧ CapOk x.2
def hueA (d : HueD) : Array Value := #[.int .i64 d.ch, .int .i64 d.at_, .int .i64 d.lev]
def palA (x : PalD × Value) : Array Value := #[.int .i64 x.1.num, x.2]
def RPal (w : World) (x : PalD × Value) : Prop := ListAt 3 hueA w x.2 x.1.hues
def cueYA (x : CueD × Value × Value) : Array Value := cueA x.1 x.2.1 x.2.2
structure RCueY (w : World) (x : CueD × Value × Value) : Prop where
 at_ : CueAt w x.2.1 x.2.2 x.1
 cap1 : CapOk x.2.1
 lab : x.1.lab.size ≤ 9223372036854775806
 num : x.1.num.size ≤ 9223372036854775806
 link : x.1.link.size ≤ 9223372036854775806
def lstA (x : LstD × Value) : Array Value := #[.int .i64 x.1.num, .int .i64 x.1.pri, x.2]
def RLst (w : World) (x : LstD × Value) : Prop := RL 9 cueYA RCueY w x.2 x.1.cues
def gainA (d : GainD) : Array Value := #[.int .i64 d.ch, .int .i64 d.at_, .int .i64 d.lev]
def subA (x : SubD × Value) : Array Value := #[.int .i64 x.1.num, .int .i64 x.1.pri, .bool x.1.inh, x.2]
def RSub (w : World) (x : SubD × Value) : Prop := ListAt 3 gainA w x.2 x.1.gains
def effA (x : EffD × Value) : Array Value := #[.int .i64 x.1.num, .int .i64 x.1.attr, x.2, .int .i64 x.1.per, .int .i64 x.1.spr, .int .i64 x.1.size]
def REff (w : World) (x : EffD × Value) : Prop := ListAt 2 ptA w x.2 x.1.wave
theorem za6 : Stable RFeat := fun _ _ _ hb h => ⟨ListAt.run h.1 hb, h.2⟩
theorem zap : Stable RProf := fun _ _ _ hb h => ⟨RL.run za6 h.1 hb, h.2⟩
theorem zaz : Stable RCurve := fun _ _ _ hb h => ListAt.run h hb
theorem zbf : Stable RGrp := fun _ _ _ hb h => ⟨ListAt.run h.1 hb, h.2⟩
theorem zbe : Stable RPal := fun _ _ _ hb h => ListAt.run h hb
theorem zbr : Stable RCueY := fun _ _ _ hb h => ⟨h.at_.run hb, h.cap1, h.lab, h.num, h.link⟩
theorem zbz : Stable RLst := fun _ _ _ hb h => RL.run zbr h hb
theorem zbm : Stable RSub := fun _ _ _ hb h => ListAt.run h hb
theorem zb0 : Stable REff := fun _ _ _ hb h => ListAt.run h hb
structure ShowV where
 curves : Value
 profs : Value
 fixs : Value
 grps : Value
 pals : Value
 lists : Value
 subs : Value
 effs : Value
def showA (s : ShowD) (v : ShowV) : Array Value := #[.string s.title, v.curves, v.profs, v.fixs, v.grps, v.pals, v.lists, v.subs, v.effs]
structure ShowAt (w : World) (v : ShowV) (s : ShowD) : Prop where
 curves : RL 1 curveA RCurve w v.curves s.curves
 profs : RL 4 profA RProf w v.profs s.profs
 fixs : ListAt 7 fixA w v.fixs s.fixs
 grps : RL 2 grpA RGrp w v.grps s.grps
 pals : RL 2 palA RPal w v.pals s.pals
 lists : RL 3 lstA RLst w v.lists s.lists
 subs : RL 4 subA RSub w v.subs s.subs
 effs : RL 6 effA REff w v.effs s.effs
 capFix : CapOk v.fixs
 fixOk : ∀ d ∈ s.fixs, d.prof.size ≤ 9223372036854775806 ∧ d.cable.size ≤ 9223372036854775806
 title : s.title.size ≤ 9223372036854775806
theorem ShowAt.run {w W : World} {v : ShowV} {s : ShowD} (h : ShowAt w v s) (hb : Below w.heap.size w W) : ShowAt W v s :=
 ⟨h.curves.run zaz hb, h.profs.run zap hb, h.fixs.run hb, h.grps.run zbf hb, h.pals.run zbe hb, h.lists.run zbz hb, h.subs.run zbm hb, h.effs.run zb0 hb, h.capFix, h.fixOk, h.title⟩
end Go.Proofs.YtjeigphhepngmaaGreatDoor
