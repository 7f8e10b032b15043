/-
  The law's few: a world and a request are small.
  What a law keeps behind the reference's Send or Ask, whatever the order of the blocks that are made beside.
  The walk of the law ManagerSends.
-/
import Derived.Test.YtpjmhhfpjhmiiaaGreatQj
import Derived.Test.YtpjmhhfpjhmiiaaGreatQt
import Derived.Test.YtpjmhhfpjhmiiaaGreatTc
import Derived.Test.YtpjmhhfpjhmiiaaGreatQh
import Derived.Test.YtpjmhhfpjhmiiaaGreatSameM
namespace Go.Proofs.YtpjmhhfpjhmiiaaGreat
open Go.RowKit Go.Shelf

set_option maxHeartbeats 4000000 in
set_option maxRecDepth 100000 in
theorem mfew_any (q : Bool) (x : Mgr) (da fa la : Option Addr) (dn dc fn fc ln lc : Nat) (y : Wre) (dst kind par : Int) (dat : ByteArray) (w : World) (h : WireAt w (.slice da dn dc) (.slice fa fn fc) (.slice la ln lc) y) (hr : y.devs.length * 56 ≤ 140737488351232) (hq : (fewW y && decide (dat.size ≤ 1000)) = q) :
    Calls Tryz.prog 22 #[.agg #[.int .u64 x.id, .int .i64 x.seq, .int .i64 x.tries, .slice da dn dc, .slice fa fn fc, .slice la ln lc], .agg #[.int .u64 dst, .int .i64 kind, .int .i64 par, .string dat]] w fun e w' => e = .returned (.bool q) ∧ Below w.heap.size w w' := by
  obtain ⟨xi, xs, xt⟩ := x
  show Calls Tryz.prog 22 #[.agg #[.int .u64 xi, .int .i64 xs, .int .i64 xt, .slice da dn dc, .slice fa fn fc, .slice la ln lc], _] w _
  obtain ⟨W, hW⟩ : ∃ W, (w.alloc (.cells #[.int .u64 xi, .int .i64 xs, .int .i64 xt, .slice da dn dc, .slice fa fn fc, .slice la ln lc] 31)).alloc (.cells #[.int .u64 dst, .int .i64 kind, .int .i64 par, .string dat] 50) = W := ⟨_, rfl⟩
  have hbW : Below w.heap.size w W := by rw [← hW]; (repeat' (first | (with_reducible exact Below.refl _ _) | (with_reducible assumption) | (with_reducible refine below_run ?_ (by assumption)) | (with_reducible refine below_of_upd ?_ (by assumption) ?_) | (with_reducible refine below_drewN ?_ _) | (with_reducible refine Below.drew ?_) | (with_reducible refine below_seven ?_ ?_) | (with_reducible refine below_six ?_ ?_) | (with_reducible refine below_one ?_ ?_) | (with_reducible refine Below.alloc ?_ ?_ _) | (with_reducible refine below_after ?_ ?_ (by assumption)) | (show _ ≤ _; first | omega | (simp; done) | (simp; omega))))
  have r0 : RowAt W w.heap.size 31 #[.int .u64 xi, .int .i64 xs, .int .i64 xt, .slice da dn dc, .slice fa fn fc, .slice la ln lc] := by rw [← hW]; exact (RowAt.new _ _ _).alloc _
  have r1 : RowAt W (w.heap.size + 1) 50 #[.int .u64 dst, .int .i64 kind, .int .i64 par, .string dat] := by rw [← hW]; exact RowAt.mk (by simp) rfl
  obtain ⟨q1, hq1⟩ : ∃ q, fewW y = q := ⟨_, rfl⟩
  have CO := Lib.hid (wof_any da fa la dn dc fn fc ln lc y W (h.run hbW) hr)
  have HF := Lib.hid hq1
  rw [hq1] at hq
  have R1 := Lib.hid r1
  have HB := Lib.hid hbW
  obtain ⟨x1, x2, x3, x4, x5, x6⟩ := row_facts r0
  clear h hr r0 r1 hbW hq1
  go_enter Tryz.func22, Tryz.ntmps22
  go_upto_region 1 with fail
  clear hW
  go_wp2_with fail
  refine CO.out.mono ?_
  rintro e w1 ⟨a1, c1, rfl, hwa, hb1⟩
  have hb2 := below_run HB.out hb1
  have hr1 := R1.out.run hb1
  have CF := Lib.hid (rfew_any q1 a1 fa la y.devs.length c1 fn fc ln lc y w1 hwa HF.out)
  have HB2 := Lib.hid hb2
  have R2 := Lib.hid hr1
  clear hwa hb1 hb2 hr1 CO x1 x2 x3 x4 x5 x6
  cases q1 with
  | false =>
    go_wp2_with fail
    refine CF.out.mono ?_
    rintro e w2 ⟨rfl, hb3⟩
    rw [Bool.false_and] at hq
    subst hq
    go_wp2
    go_ret
    exact ⟨rfl, below_run HB2.out hb3⟩
  | true =>
    go_wp2_with fail
    refine CF.out.mono ?_
    rintro e w2 ⟨rfl, hb3⟩
    rw [Bool.true_and] at hq
    have hr3 := R2.out.run hb3
    obtain ⟨x1, x2, x3, x4, x5, x6⟩ := row_facts hr3
    have HB3 := Lib.hid (below_run HB2.out hb3)
    have HQ := Lib.hid hq
    clear hr3 hb3 hq
    go_wp2
    go_ret
    refine ⟨?_, HB3.out⟩
    rw [← HQ.out]
    congr 3
    simp
    try omega
end Go.Proofs.YtpjmhhfpjhmiiaaGreat

namespace Go.Proofs.YtpjmhhfpjhmiiaaGreat
open Go.RowKit Go.Shelf

/-- Devices lie elsewhere than a small row. -/
theorem devs_small {w w' : World} {s T : Nat} {cs : Array Value} {v : Value} {l : List Dev} (h : DevsAt w v l) (hr : RowAt w s T cs) (hz : cs.size < 6) (hu : Upd s w w') : DevsAt w' v l :=
  SeqAt.same h hu.size fun b off cap e h0 hc => by
    have q6 : w.cell? ⟨b, off + 6, none⟩ = some (.bool (l[0]'h0).idf) := by
      rw [hc 6 (by omega)]
      simp [devsC, List.getElem?_eq_getElem h0, devA]
    refine hu.block b (World.block_lt_of_cell? w _ q6) (fun e => ?_)
    cases e
    rw [cell_fact hr] at q6
    have := (Array.getElem?_eq_some_iff.1 q6).1
    omega
/-- What a law keeps. -/
structure LawF (K B : Nat) (w0 w : World) (dv fv lv mv : Value) (y : Wre) (L : List Msg) : Prop where
  devs : DevsAt w dv y.devs
  faults : IntsAt w0 fv y.faults
  late : StrsAt w lv y.late
  lout : OutB K B lv y.late.length
  msgs : MsgsAt w mv L
  below : Below w0.heap.size w0 w
section
variable {K B : Nat} {w0 w : World} {dv fv lv mv : Value} {y : Wre} {L : List Msg}
theorem LawF.upd {w' : World} {b T : Nat} {cs : Array Value} (h : LawF K B w0 w dv fv lv mv y L) (hr : RowAt w b T cs) (hz : cs.size < 6) (hK : w0.heap.size ≤ K) (h1 : K ≤ b) (h2 : b < B) (hu : Upd b w w') : LawF K B w0 w' dv fv lv mv y L :=
  ⟨devs_small h.devs hr hz hu, h.faults, seq_out h.late h.lout h1 h2 hu, h.lout, msgs_small h.msgs hr hz hu, below_of_upd h.below hu (by omega)⟩
theorem LawF.run {w' : World} (h : LawF K B w0 w dv fv lv mv y L) (hb : Below w.heap.size w w') : LawF K B w0 w' dv fv lv mv y L :=
  ⟨h.devs.below hb, h.faults, h.late.runM hb, h.lout, MsgsAt.run h.msgs hb, below_run h.below hb⟩
theorem LawF.alloc (h : LawF K B w0 w dv fv lv mv y L) (o : Obj) : LawF K B w0 (w.alloc o) dv fv lv mv y L := h.run ((Below.refl _ _).alloc (Nat.le_refl _) o)
theorem LawF.drew (h : LawF K B w0 w dv fv lv mv y L) : LawF K B w0 w.drew dv fv lv mv y L := h.run (Below.drew (Below.refl _ _))
theorem LawF.set3 {b T : Nat} {a0 a1 a2 u0 u1 u2 : Value} (h : LawF K B w0 w dv fv lv mv y L) (hr : RowAt w b T #[a0, a1, a2]) (hK : w0.heap.size ≤ K) (h1 : K ≤ b) (h2 : b < B) : LawF K B w0 (((w.setCell ⟨b, 0, none⟩ u0).setCell ⟨b, 1, none⟩ u1).setCell ⟨b, 2, none⟩ u2) dv fv lv mv y L := h.upd hr (by show (3 : Nat) < 6; omega) hK h1 h2 upd3
theorem LawF.set4 {b T : Nat} {a0 a1 a2 a3 u0 u1 u2 u3 : Value} (h : LawF K B w0 w dv fv lv mv y L) (hr : RowAt w b T #[a0, a1, a2, a3]) (hK : w0.heap.size ≤ K) (h1 : K ≤ b) (h2 : b < B) : LawF K B w0 ((((w.setCell ⟨b, 0, none⟩ u0).setCell ⟨b, 1, none⟩ u1).setCell ⟨b, 2, none⟩ u2).setCell ⟨b, 3, none⟩ u3) dv fv lv mv y L := h.upd hr (by show (4 : Nat) < 6; omega) hK h1 h2 upd4
theorem LawF.r (h : LawF K B w0 w dv fv lv mv y L) : WireR w dv fv lv y := ⟨h.devs, h.faults.run h.below, h.late⟩
end
theorem lawF_of {w0 w1 w2 : World} {dv0 fv0 lv0 dv fv lv mv : Value} {y0 y : Wre} {L : List Msg} (h : WireI w1.heap.size w1.heap.size w1 w2 dv0 fv0 lv0 y0 dv fv lv y) (hf : IntsAt w0 fv0 y0.faults) (hl : StrsAt w0 lv0 y0.late) (hm : MsgsAt w2 mv L) (hb : Below w0.heap.size w0 w2) : LawF w0.heap.size w1.heap.size w0 w2 dv fv lv mv y L :=
  ⟨h.devs, h.hf w0 hf, h.late, out_of hl h.hl (Nat.le_refl _) h.late, hm, hb⟩
end Go.Proofs.YtpjmhhfpjhmiiaaGreat

namespace Go.Proofs.YtpjmhhfpjhmiiaaGreat
open Go.RowKit Go.Shelf

/-- What is so behind the reference's Send. -/
def SendsCut (x : Mgr) (y : Wre) (L : List Msg) (E : Int) (Z : World) (s9 s10 s11 s12 : Value) (wx : World) : Prop :=
  ∃ (g9 g10 : Nat) (d3 f3 l3 m3 : Option Addr), ∃ n1 c1 n2 c2 n3 c3 n4 c4 : Nat, s9 = .pointer (some ⟨g9, 0, none⟩) ∧ s10 = .pointer (some ⟨g10, 0, none⟩) ∧ s11 = .slice m3 n4 c4 ∧ s12 = .int .i64 E ∧
    RowAt wx g9 41 #[.int .u64 x.id, .int .i64 x.seq, .int .i64 x.tries] ∧ RowAt wx g10 35 #[.slice d3 n1 c1, .slice f3 n2 c2, .slice l3 n3 c3] ∧
    WireR wx (.slice d3 n1 c1) (.slice f3 n2 c2) (.slice l3 n3 c3) y ∧ MsgsAt wx (.slice m3 n4 c4) L ∧ Below Z.heap.size Z wx
theorem sends_cut {K B : Nat} {w0 wx Z : World} {x : Mgr} {y : Wre} {L : List Msg} {E : Int} {g9 g10 : Nat} {d3 f3 l3 m3 : Option Addr} {n1 c1 n2 c2 n3 c3 n4 c4 : Nat} (F : LawF K B w0 wx (.slice d3 n1 c1) (.slice f3 n2 c2) (.slice l3 n3 c3) (.slice m3 n4 c4) y L)
    (r9 : RowAt wx g9 41 #[.int .u64 x.id, .int .i64 x.seq, .int .i64 x.tries]) (r10 : RowAt wx g10 35 #[.slice d3 n1 c1, .slice f3 n2 c2, .slice l3 n3 c3]) (hb : Below Z.heap.size Z wx) :
    SendsCut x y L E Z (.pointer (some ⟨g9, 0, none⟩)) (.pointer (some ⟨g10, 0, none⟩)) (.slice m3 n4 c4) (.int .i64 E) wx :=
  ⟨g9, g10, d3, f3, l3, m3, n1, c1, n2, c2, n3, c3, n4, c4, rfl, rfl, rfl, rfl, r9, r10, F.r, F.msgs, hb⟩
section
variable {B : Nat} {w u2 Z : World} {x : Mgr} {y : Wre} {L : List Msg} {E : Int} {d3 f3 l3 m3 : Option Addr} {n1 c1 n2 c2 n3 c3 n4 c4 : Nat}
theorem sends_F1 (F : LawF w.heap.size B w u2 (.slice d3 n1 c1) (.slice f3 n2 c2) (.slice l3 n3 c3) (.slice m3 n4 c4) y L) (hb : Below Z.heap.size Z u2) :
    SendsCut x y L E Z (.pointer (some ⟨u2.heap.size, 0, none⟩)) (.pointer (some ⟨u2.heap.size + 1, 0, none⟩)) (.slice m3 n4 c4) (.int .i64 E) ((u2.alloc (.cells #[.int .u64 x.id, .int .i64 x.seq, .int .i64 x.tries] 41)).alloc (.cells #[.slice d3 n1 c1, .slice f3 n2 c2, .slice l3 n3 c3] 35)) :=
  sends_cut ((F.alloc _).alloc _) ((RowAt.new _ _ _).alloc _) (RowAt.mk (by simp) rfl) ((hb.alloc hb.size _).alloc (by have := hb.size; simp; omega) _)
theorem sends_F2 (F : LawF w.heap.size B w u2 (.slice d3 n1 c1) (.slice f3 n2 c2) (.slice l3 n3 c3) (.slice m3 n4 c4) y L) (hb : Below Z.heap.size Z u2) :
    SendsCut x y L E Z (.pointer (some ⟨u2.heap.size + 1, 0, none⟩)) (.pointer (some ⟨u2.heap.size, 0, none⟩)) (.slice m3 n4 c4) (.int .i64 E) ((u2.alloc (.cells #[.slice d3 n1 c1, .slice f3 n2 c2, .slice l3 n3 c3] 35)).alloc (.cells #[.int .u64 x.id, .int .i64 x.seq, .int .i64 x.tries] 41)) :=
  sends_cut ((F.alloc _).alloc _) (RowAt.mk (by simp) rfl) ((RowAt.new _ _ _).alloc _) ((hb.alloc hb.size _).alloc (by have := hb.size; simp; omega) _)
theorem sends_F3 {g9 : Nat} {a0 a1 a2 : Value} (F : LawF w.heap.size B w u2 (.slice d3 n1 c1) (.slice f3 n2 c2) (.slice l3 n3 c3) (.slice m3 n4 c4) y L) (hb : Below Z.heap.size Z u2) (r : RowAt u2 g9 41 #[a0, a1, a2]) (h1 : w.heap.size ≤ g9) (h2 : g9 < B) (h3 : Z.heap.size ≤ g9) :
    SendsCut x y L E Z (.pointer (some ⟨g9, 0, none⟩)) (.pointer (some ⟨u2.heap.size, 0, none⟩)) (.slice m3 n4 c4) (.int .i64 E) ((((u2.setCell ⟨g9, 0, none⟩ (.int .u64 x.id)).setCell ⟨g9, 1, none⟩ (.int .i64 x.seq)).setCell ⟨g9, 2, none⟩ (.int .i64 x.tries)).alloc (.cells #[.slice d3 n1 c1, .slice f3 n2 c2, .slice l3 n3 c3] 35)) :=
  sends_cut ((F.set3 r (Nat.le_refl _) h1 h2).alloc _) ((row3 r).alloc _) (RowAt.mk (by simp) rfl) ((below_three hb h3).alloc (by have := hb.size; simp; omega) _)
theorem sends_F4 {g9 g10 : Nat} {a0 a1 a2 b0 b1 b2 : Value} (F : LawF w.heap.size B w u2 (.slice d3 n1 c1) (.slice f3 n2 c2) (.slice l3 n3 c3) (.slice m3 n4 c4) y L) (hb : Below Z.heap.size Z u2) (r : RowAt u2 g9 41 #[a0, a1, a2]) (r' : RowAt u2 g10 35 #[b0, b1, b2]) (h1 : w.heap.size ≤ g9) (h2 : g9 < B) (h3 : Z.heap.size ≤ g9) (h4 : w.heap.size ≤ g10) (h5 : g10 < B) (h6 : Z.heap.size ≤ g10) (hne : ¬ g10 = g9) :
    SendsCut x y L E Z (.pointer (some ⟨g9, 0, none⟩)) (.pointer (some ⟨g10, 0, none⟩)) (.slice m3 n4 c4) (.int .i64 E) (((((((u2.setCell ⟨g9, 0, none⟩ (.int .u64 x.id)).setCell ⟨g9, 1, none⟩ (.int .i64 x.seq)).setCell ⟨g9, 2, none⟩ (.int .i64 x.tries)).setCell ⟨g10, 0, none⟩ (.slice d3 n1 c1)).setCell ⟨g10, 1, none⟩ (.slice f3 n2 c2)).setCell ⟨g10, 2, none⟩ (.slice l3 n3 c3))) :=
  sends_cut ((F.set3 r (Nat.le_refl _) h1 h2).set3 (r'.far3 hne) (Nat.le_refl _) h4 h5) ((row3 r).far3 (fun e => hne e.symm)) (row3 (r'.far3 hne)) (below_three (below_three hb h3) h6)
theorem sends_F5 {g10 : Nat} {b0 b1 b2 : Value} (F : LawF w.heap.size B w u2 (.slice d3 n1 c1) (.slice f3 n2 c2) (.slice l3 n3 c3) (.slice m3 n4 c4) y L) (hb : Below Z.heap.size Z u2) (r' : RowAt u2 g10 35 #[b0, b1, b2]) (h4 : w.heap.size ≤ g10) (h5 : g10 < B) (h6 : Z.heap.size ≤ g10) :
    SendsCut x y L E Z (.pointer (some ⟨u2.heap.size, 0, none⟩)) (.pointer (some ⟨g10, 0, none⟩)) (.slice m3 n4 c4) (.int .i64 E) ((((u2.setCell ⟨g10, 0, none⟩ (.slice d3 n1 c1)).setCell ⟨g10, 1, none⟩ (.slice f3 n2 c2)).setCell ⟨g10, 2, none⟩ (.slice l3 n3 c3)).alloc (.cells #[.int .u64 x.id, .int .i64 x.seq, .int .i64 x.tries] 41)) :=
  sends_cut ((F.set3 r' (Nat.le_refl _) h4 h5).alloc _) (RowAt.mk (by simp) rfl) ((row3 r').alloc _) ((below_three hb h6).alloc (by have := hb.size; simp; omega) _)
end

set_option maxHeartbeats 32000000 in
set_option maxRecDepth 100000 in
theorem law_sends (x : Mgr) (da fa la : Option Addr) (dn dc fn fc ln lc : Nat) (y : Wre) (dst kind par : Int) (dat : ByteArray) (w : World) (h : WireAt w (.slice da dn dc) (.slice fa fn fc) (.slice la ln lc) y) (hr : y.devs.length * 56 ≤ 140737488351232) (hn : NilOne (.slice la ln lc)) (hrm : RoomOk (.slice fa fn fc)) :
    Calls Tryz.prog 8 #[.agg #[.int .u64 x.id, .int .i64 x.seq, .int .i64 x.tries, .slice da dn dc, .slice fa fn fc, .slice la ln lc], .agg #[.int .u64 dst, .int .i64 kind, .int .i64 par, .string dat]] w fun e w' => e = .returned (.bool true) ∧ Below w.heap.size w w' := by
  obtain ⟨xi, xs, xt⟩ := x
  show Calls Tryz.prog 8 #[.agg #[.int .u64 xi, .int .i64 xs, .int .i64 xt, .slice da dn dc, .slice fa fn fc, .slice la ln lc], _] w _
  obtain ⟨W, hW⟩ : ∃ W, (w.alloc (.cells #[.int .u64 xi, .int .i64 xs, .int .i64 xt, .slice da dn dc, .slice fa fn fc, .slice la ln lc] 31)).alloc (.cells #[.int .u64 dst, .int .i64 kind, .int .i64 par, .string dat] 50) = W := ⟨_, rfl⟩
  have hbW : Below w.heap.size w W := by rw [← hW]; (repeat' (first | (with_reducible exact Below.refl _ _) | (with_reducible assumption) | (with_reducible refine below_run ?_ (by assumption)) | (with_reducible refine below_of_upd ?_ (by assumption) ?_) | (with_reducible refine below_drewN ?_ _) | (with_reducible refine Below.drew ?_) | (with_reducible refine below_seven ?_ ?_) | (with_reducible refine below_six ?_ ?_) | (with_reducible refine below_one ?_ ?_) | (with_reducible refine Below.alloc ?_ ?_ _) | (with_reducible refine below_after ?_ ?_ (by assumption)) | (show _ ≤ _; first | omega | (simp; done) | (simp; omega))))
  have r0 : RowAt W w.heap.size 31 #[.int .u64 xi, .int .i64 xs, .int .i64 xt, .slice da dn dc, .slice fa fn fc, .slice la ln lc] := by rw [← hW]; exact (RowAt.new _ _ _).alloc _
  have r1 : RowAt W (w.heap.size + 1) 50 #[.int .u64 dst, .int .i64 kind, .int .i64 par, .string dat] := by rw [← hW]; exact RowAt.mk (by simp) rfl
  obtain ⟨q, hq⟩ : ∃ q, (fewW y && decide (dat.size ≤ 1000)) = q := ⟨_, rfl⟩
  have CF := Lib.hid (mfew_any q ⟨xi, xs, xt⟩ da fa la dn dc fn fc ln lc y dst kind par dat W (h.run hbW) hr hq)
  have HH := Lib.hid h
  have HR := Lib.hid hr
  have HN := Lib.hid hn
  have HRM := Lib.hid hrm
  have HQ := Lib.hid hq
  have R0 := Lib.hid r0
  have R1 := Lib.hid r1
  have HB := Lib.hid hbW
  obtain ⟨x1, x2, x3, x4, x5, x6⟩ := row_facts r0
  obtain ⟨y1, y2, y3, y4, y5, y6⟩ := row_facts r1
  clear h hr hn hrm hq r0 r1 hbW
  go_enter Tryz.func8, Tryz.ntmps8
  go_upto_region 1 with fail
  clear hW
  go_wp2_with fail
  refine CF.out.mono ?_
  rintro e w1 ⟨rfl, hb1⟩
  have r0 := R0.out.run hb1
  have r1 := R1.out.run hb1
  have HB1 := Lib.hid (below_run HB.out hb1)
  have R01 := Lib.hid r0
  have R11 := Lib.hid r1
  clear x1 x2 x3 x4 x5 x6 y1 y2 y3 y4 y5 y6 hb1 R0 R1 HB CF
  obtain ⟨x1, x2, x3, x4, x5, x6⟩ := row_facts r0
  obtain ⟨y1, y2, y3, y4, y5, y6⟩ := row_facts r1
  clear r0 r1
  cases q with
  | false =>
    go_wp2_with fail
    refine (awake49_any _).mono ?_
    rintro e w9 ⟨rfl, hb9⟩
    go_wp2
    go_ret
    exact ⟨rfl, below_run HB1.out hb9⟩
  | true =>
  have hq := HQ.out
  simp only [Bool.and_eq_true, decide_eq_true_eq] at hq
  obtain ⟨hfw, hds⟩ := hq
  obtain ⟨f1, f2, -⟩ := few_small hfw
  have HLB := Lib.hid (show ∀ d ∈ y.devs, d.lb.size ≤ 9223372036854775807 from fun d hd => by have := f2 d hd; omega)
  have HDS := Lib.hid (show dat.size ≤ 9223372036854775807 by omega)
  obtain ⟨⟨⟨pi, ps, pt⟩, y', L⟩, hp⟩ : ∃ p, sendU ⟨xi, xs, xt⟩ y ⟨dst, kind, par, dat⟩ = p := ⟨_, rfl⟩
  obtain ⟨E, hE⟩ : ∃ E, givenE ⟨xi, xs, xt⟩ y ⟨dst, kind, par, dat⟩ = E := ⟨_, rfl⟩
  have hyl : y'.devs.length ≤ 128 := by
    have h1 : (sendU ⟨xi, xs, xt⟩ y ⟨dst, kind, par, dat⟩).2.1 = y' := by rw [hp]
    rw [← h1]
    unfold sendU
    split
    · rw [send_length]; exact f1
    · exact Nat.zero_le _
  have HYL := Lib.hid hyl
  have C1 := msendU_any ⟨xi, xs, xt⟩ da fa la dn dc fn fc ln lc y dst kind par dat w1 (HH.out.run HB1.out)
  have C2 := fun V (a9 : Option Addr) (c9 : Nat) (hv : WireAt V (.slice a9 y.devs.length c9) (.slice fa fn fc) (.slice la ln lc) y) => rsendU_any ⟨xi, xs, xt⟩ a9 fa la y.devs.length c9 fn fc ln lc y dst kind par dat V ⟨hv.r, HN.out, HRM.out⟩ HLB.out HDS.out
  rw [hp, hE] at C1
  simp only [hp, hE] at C2
  have C1H := Lib.hid C1
  have C2H := Lib.hid C2
  clear C1 C2 hp hE hfw hds f1 f2 hyl
  go_wp2_with fail
  refine C1H.out.mono ?_
  rintro e w2 ⟨d1, g1, l1, ma, n1, c1, n2, c2, n3, c3, n4, c4, he, hw2, hm2, hb2⟩
  have he' : e = .returned (.tuple #[.agg #[.int .u64 pi, .int .i64 ps, .int .i64 pt], .agg #[.slice d1 n1 c1, .slice g1 n2 c2, .slice l1 n3 c3], .slice ma n4 c4, .int .i64 E]) := he
  subst he'
  have HW2 := Lib.hid hw2
  have HM2 := Lib.hid hm2
  have R02 := Lib.hid (R01.out.run hb2)
  have R12 := Lib.hid (R11.out.run hb2)
  have HB2 := Lib.hid (below_run HB1.out hb2)
  clear he hw2 hm2 hb2 x1 x2 x3 x4 x5 x6 y1 y2 y3 y4 y5 y6 R01 R11 HB1 C1H
  go_upto_region 4 with fail
  have hbT : Below w2.heap.size w2 ((w2.alloc (.cells #[.int .u64 pi, .int .i64 ps, .int .i64 pt] 24)).alloc (.cells #[.slice d1 n1 c1, .slice g1 n2 c2, .slice l1 n3 c3] 29)) := by (repeat' (first | (with_reducible exact Below.refl _ _) | (with_reducible assumption) | (with_reducible refine below_run ?_ (by assumption)) | (with_reducible refine below_of_upd ?_ (by assumption) ?_) | (with_reducible refine below_drewN ?_ _) | (with_reducible refine Below.drew ?_) | (with_reducible refine below_seven ?_ ?_) | (with_reducible refine below_six ?_ ?_) | (with_reducible refine below_one ?_ ?_) | (with_reducible refine Below.alloc ?_ ?_ _) | (with_reducible refine below_after ?_ ?_ (by assumption)) | (show _ ≤ _; first | omega | (simp; done) | (simp; omega))))
  have r5 : RowAt ((w2.alloc (.cells #[.int .u64 pi, .int .i64 ps, .int .i64 pt] 24)).alloc (.cells #[.slice d1 n1 c1, .slice g1 n2 c2, .slice l1 n3 c3] 29)) w2.heap.size 24 #[.int .u64 pi, .int .i64 ps, .int .i64 pt] := (RowAt.new _ _ _).alloc _
  have r6 : RowAt ((w2.alloc (.cells #[.int .u64 pi, .int .i64 ps, .int .i64 pt] 24)).alloc (.cells #[.slice d1 n1 c1, .slice g1 n2 c2, .slice l1 n3 c3] 29)) (w2.heap.size + 1) 29 #[.slice d1 n1 c1, .slice g1 n2 c2, .slice l1 n3 c3] := RowAt.mk (by simp) rfl
  have r0 := R02.out.run hbT
  have r1 := R12.out.run hbT
  have hw := HW2.out.run hbT
  have hm := HM2.out.run hbT
  have hbw := below_run HB2.out hbT
  generalize (w2.alloc (.cells #[.int .u64 pi, .int .i64 ps, .int .i64 pt] 24)).alloc (.cells #[.slice d1 n1 c1, .slice g1 n2 c2, .slice l1 n3 c3] 29) = Z at hbT r5 r6 r0 r1 hw hm hbw ⊢
  generalize w2.heap.size = k5 at r5 r6 ⊢
  have hkeep : ∀ W', Below Z.heap.size Z W' → (W'.cell? ⟨w.heap.size, 0, none⟩ = some (.int .u64 xi) ∧ W'.cell? ⟨w.heap.size, 1, none⟩ = some (.int .i64 xs) ∧ W'.cell? ⟨w.heap.size, 2, none⟩ = some (.int .i64 xt) ∧ W'.cell? ⟨w.heap.size, 3, none⟩ = some (.slice da dn dc) ∧ W'.cell? ⟨w.heap.size, 4, none⟩ = some (.slice fa fn fc) ∧ W'.cell? ⟨w.heap.size, 5, none⟩ = some (.slice la ln lc) ∧ W'.cell? ⟨w.heap.size + 1, 0, none⟩ = some (.int .u64 dst) ∧ W'.cell? ⟨w.heap.size + 1, 1, none⟩ = some (.int .i64 kind) ∧ W'.cell? ⟨w.heap.size + 1, 2, none⟩ = some (.int .i64 par) ∧ W'.cell? ⟨w.heap.size + 1, 3, none⟩ = some (.string dat)) := by
    intro W' hb
    have a0 := r0.run hb
    have a1 := r1.run hb
    exact ⟨cell_fact a0 0, cell_fact a0 1, cell_fact a0 2, cell_fact a0 3, cell_fact a0 4, cell_fact a0 5, cell_fact a1 0, cell_fact a1 1, cell_fact a1 2, cell_fact a1 3⟩
  have HK := Lib.hid hkeep
  have hbd : Below Z.heap.size Z Z.drew := Below.drew (Below.refl _ _)
  obtain ⟨m0, m1, m2, m3, m4, m5, m6, m7, m8, m9⟩ := hkeep Z (Below.refl _ _)
  have HWZ := Lib.hid hw
  have HMZ := Lib.hid hm
  have HBZ := Lib.hid hbw
  have R5 := Lib.hid r5
  have R6 := Lib.hid r6
  have hz0 := hbw.size
  have hlz := lt_of_block r1
  have CO := Lib.hid (fun V (hb : Below Z.heap.size Z V) => wof_any da fa la dn dc fn fc ln lc y V (HH.out.run (below_run HBZ.out hb)) HR.out)
  clear hbT r5 r6 r0 r1 hw hm hbw hkeep HW2 HM2 R02 R12 HB2
  go_cut [9, 10, 11, 12] (fun s9 s10 s11 s12 wx => SendsCut ⟨pi, ps, pt⟩ y' L E Z s9 s10 s11 s12 wx)
  case first =>
    go_region_held3 (fun w' => w'.cell? ⟨w.heap.size, 0, none⟩ = some (.int .u64 xi) ∧ w'.cell? ⟨w.heap.size, 1, none⟩ = some (.int .i64 xs) ∧ w'.cell? ⟨w.heap.size, 2, none⟩ = some (.int .i64 xt) ∧ w'.cell? ⟨w.heap.size, 3, none⟩ = some (.slice da dn dc) ∧ w'.cell? ⟨w.heap.size, 4, none⟩ = some (.slice fa fn fc) ∧ w'.cell? ⟨w.heap.size, 5, none⟩ = some (.slice la ln lc) ∧ w'.cell? ⟨w.heap.size + 1, 0, none⟩ = some (.int .u64 dst) ∧ w'.cell? ⟨w.heap.size + 1, 1, none⟩ = some (.int .i64 kind) ∧ w'.cell? ⟨w.heap.size + 1, 2, none⟩ = some (.int .i64 par) ∧ w'.cell? ⟨w.heap.size + 1, 3, none⟩ = some (.string dat)) (first | go_keep | exact HK.out _ (by (repeat' (first | (with_reducible exact Below.refl _ _) | (with_reducible assumption) | (with_reducible refine below_run ?_ (by assumption)) | (with_reducible refine below_of_upd ?_ (by assumption) ?_) | (with_reducible refine below_drewN ?_ _) | (with_reducible refine Below.drew ?_) | (with_reducible refine below_seven ?_ ?_) | (with_reducible refine below_six ?_ ?_) | (with_reducible refine below_one ?_ ?_) | (with_reducible refine Below.alloc ?_ ?_ _) | (with_reducible refine below_after ?_ ?_ (by assumption)) | (show _ ≤ _; first | omega | (simp; done) | (simp; omega))))))
      (first
        | (go_at_call 14; refine (CO.out _ (by (repeat' (first | (with_reducible exact Below.refl _ _) | (with_reducible assumption) | (with_reducible refine below_run ?_ (by assumption)) | (with_reducible refine below_of_upd ?_ (by assumption) ?_) | (with_reducible refine below_drewN ?_ _) | (with_reducible refine Below.drew ?_) | (with_reducible refine below_seven ?_ ?_) | (with_reducible refine below_six ?_ ?_) | (with_reducible refine below_one ?_ ?_) | (with_reducible refine Below.alloc ?_ ?_ _) | (with_reducible refine below_after ?_ ?_ (by assumption)) | (show _ ≤ _; first | omega | (simp; done) | (simp; omega)))))).mono ?_; rintro e u1 ⟨a9, c9, rfl, hv9, hb9⟩; have hs9 := hb9.size; (try simp at hs9); (try (refine have_of (p := RowAt u1 Z.heap.size 41 #[.int .u64 0, .int .i64 0, .int .i64 0]) ?_ ?_; (focus ((repeat' (first | (with_reducible assumption) | (with_reducible refine RowAt.drewN ?_ _) | (with_reducible refine RowAt.drew ?_) | (with_reducible apply RowAt.seven) | (with_reducible apply RowAt.six) | (with_reducible refine RowAt.far7 ?_ ?_) | (with_reducible refine RowAt.far6 ?_ ?_) | (with_reducible refine RowAt.far1 ?_ ?_) | ((with_reducible refine RowAt.mk ?_ ?_); (focus (first | (with_reducible rfl) | (simp; done))); rfl) | (with_reducible refine RowAt.alloc ?_ _) | (with_reducible refine RowAt.run ?_ (by assumption)) | (with_reducible refine RowAt.below ?_ (by assumption) ?_) | (with_reducible refine RowAt.upd ?_ (by assumption) ?_) | (with_reducible show _ < _; first | omega | (simp; done) | (simp; omega)) | (with_reducible show ¬ _ = _; first | omega | (simp; done) | (simp; omega)) | (with_reducible exact rfl))); done)); intro hx; obtain ⟨x1, x2, x3, x4, x5, x6⟩ := row_facts hx)); (try (refine have_of (p := RowAt u1 Z.heap.size 35 #[.slice none 0 0, .slice none 0 0, .slice none 0 0]) ?_ ?_; (focus ((repeat' (first | (with_reducible assumption) | (with_reducible refine RowAt.drewN ?_ _) | (with_reducible refine RowAt.drew ?_) | (with_reducible apply RowAt.seven) | (with_reducible apply RowAt.six) | (with_reducible refine RowAt.far7 ?_ ?_) | (with_reducible refine RowAt.far6 ?_ ?_) | (with_reducible refine RowAt.far1 ?_ ?_) | ((with_reducible refine RowAt.mk ?_ ?_); (focus (first | (with_reducible rfl) | (simp; done))); rfl) | (with_reducible refine RowAt.alloc ?_ _) | (with_reducible refine RowAt.run ?_ (by assumption)) | (with_reducible refine RowAt.below ?_ (by assumption) ?_) | (with_reducible refine RowAt.upd ?_ (by assumption) ?_) | (with_reducible show _ < _; first | omega | (simp; done) | (simp; omega)) | (with_reducible show ¬ _ = _; first | omega | (simp; done) | (simp; omega)) | (with_reducible exact rfl))); done)); intro hx; obtain ⟨x1, x2, x3, x4, x5, x6⟩ := row_facts hx)); (try (refine have_of (p := RowAt u1 (Z.heap.size + 1) 41 #[.int .u64 0, .int .i64 0, .int .i64 0]) ?_ ?_; (focus ((repeat' (first | (with_reducible assumption) | (with_reducible refine RowAt.drewN ?_ _) | (with_reducible refine RowAt.drew ?_) | (with_reducible apply RowAt.seven) | (with_reducible apply RowAt.six) | (with_reducible refine RowAt.far7 ?_ ?_) | (with_reducible refine RowAt.far6 ?_ ?_) | (with_reducible refine RowAt.far1 ?_ ?_) | ((with_reducible refine RowAt.mk ?_ ?_); (focus (first | (with_reducible rfl) | (simp; done))); rfl) | (with_reducible refine RowAt.alloc ?_ _) | (with_reducible refine RowAt.run ?_ (by assumption)) | (with_reducible refine RowAt.below ?_ (by assumption) ?_) | (with_reducible refine RowAt.upd ?_ (by assumption) ?_) | (with_reducible show _ < _; first | omega | (simp; done) | (simp; omega)) | (with_reducible show ¬ _ = _; first | omega | (simp; done) | (simp; omega)) | (with_reducible exact rfl))); done)); intro hx; obtain ⟨x1, x2, x3, x4, x5, x6⟩ := row_facts hx)); (try (refine have_of (p := RowAt u1 (Z.heap.size + 1) 35 #[.slice none 0 0, .slice none 0 0, .slice none 0 0]) ?_ ?_; (focus ((repeat' (first | (with_reducible assumption) | (with_reducible refine RowAt.drewN ?_ _) | (with_reducible refine RowAt.drew ?_) | (with_reducible apply RowAt.seven) | (with_reducible apply RowAt.six) | (with_reducible refine RowAt.far7 ?_ ?_) | (with_reducible refine RowAt.far6 ?_ ?_) | (with_reducible refine RowAt.far1 ?_ ?_) | ((with_reducible refine RowAt.mk ?_ ?_); (focus (first | (with_reducible rfl) | (simp; done))); rfl) | (with_reducible refine RowAt.alloc ?_ _) | (with_reducible refine RowAt.run ?_ (by assumption)) | (with_reducible refine RowAt.below ?_ (by assumption) ?_) | (with_reducible refine RowAt.upd ?_ (by assumption) ?_) | (with_reducible show _ < _; first | omega | (simp; done) | (simp; omega)) | (with_reducible show ¬ _ = _; first | omega | (simp; done) | (simp; omega)) | (with_reducible exact rfl))); done)); intro hx; obtain ⟨x1, x2, x3, x4, x5, x6⟩ := row_facts hx));  have hY1 : Below Z.heap.size Z u1 := (by (repeat' (first | (with_reducible exact Below.refl _ _) | (with_reducible assumption) | (with_reducible refine below_run ?_ (by assumption)) | (with_reducible refine below_of_upd ?_ (by assumption) ?_) | (with_reducible refine below_drewN ?_ _) | (with_reducible refine Below.drew ?_) | (with_reducible refine below_seven ?_ ?_) | (with_reducible refine below_six ?_ ?_) | (with_reducible refine below_one ?_ ?_) | (with_reducible refine Below.alloc ?_ ?_ _) | (with_reducible refine below_after ?_ ?_ (by assumption)) | (show _ ≤ _; first | omega | (simp; done) | (simp; omega))))); obtain ⟨m0, m1, m2, m3, m4, m5, m6, m7, m8, m9⟩ := HK.out _ hY1; have hzu1 := hY1.size)
        | (go_at_call 35; refine (C2H.out _ a9 c9 (by first | exact hv9 | exact hv9.drew | exact hv9.run (by (repeat' (first | (with_reducible exact Below.refl _ _) | (with_reducible assumption) | (with_reducible refine below_run ?_ (by assumption)) | (with_reducible refine below_of_upd ?_ (by assumption) ?_) | (with_reducible refine below_drewN ?_ _) | (with_reducible refine Below.drew ?_) | (with_reducible refine below_seven ?_ ?_) | (with_reducible refine below_six ?_ ?_) | (with_reducible refine below_one ?_ ?_) | (with_reducible refine Below.alloc ?_ ?_ _) | (with_reducible refine below_after ?_ ?_ (by assumption)) | (show _ ≤ _; first | omega | (simp; done) | (simp; omega))))))).mono ?_; rintro e u2 ⟨d3, f3, l3, m3', o1, e1, o2, e2, o3, e3, o4, e4, he2, hI2, hM2, hb22⟩; have he3 : e = .returned (.tuple #[.agg #[.int .u64 pi, .int .i64 ps, .int .i64 pt], .agg #[.slice d3 o1 e1, .slice f3 o2 e2, .slice l3 o3 e3], .slice m3' o4 e4, .int .i64 E]) := he2; subst he3; clear he2; have hs22 := hb22.size; (try simp at hs22); (try (refine have_of (p := RowAt u2 Z.heap.size 41 #[.int .u64 0, .int .i64 0, .int .i64 0]) ?_ ?_; (focus ((repeat' (first | (with_reducible assumption) | (with_reducible refine RowAt.drewN ?_ _) | (with_reducible refine RowAt.drew ?_) | (with_reducible apply RowAt.seven) | (with_reducible apply RowAt.six) | (with_reducible refine RowAt.far7 ?_ ?_) | (with_reducible refine RowAt.far6 ?_ ?_) | (with_reducible refine RowAt.far1 ?_ ?_) | ((with_reducible refine RowAt.mk ?_ ?_); (focus (first | (with_reducible rfl) | (simp; done))); rfl) | (with_reducible refine RowAt.alloc ?_ _) | (with_reducible refine RowAt.run ?_ (by assumption)) | (with_reducible refine RowAt.below ?_ (by assumption) ?_) | (with_reducible refine RowAt.upd ?_ (by assumption) ?_) | (with_reducible show _ < _; first | omega | (simp; done) | (simp; omega)) | (with_reducible show ¬ _ = _; first | omega | (simp; done) | (simp; omega)) | (with_reducible exact rfl))); done)); intro hx; obtain ⟨x1, x2, x3, x4, x5, x6⟩ := row_facts hx)); (try (refine have_of (p := RowAt u2 Z.heap.size 35 #[.slice none 0 0, .slice none 0 0, .slice none 0 0]) ?_ ?_; (focus ((repeat' (first | (with_reducible assumption) | (with_reducible refine RowAt.drewN ?_ _) | (with_reducible refine RowAt.drew ?_) | (with_reducible apply RowAt.seven) | (with_reducible apply RowAt.six) | (with_reducible refine RowAt.far7 ?_ ?_) | (with_reducible refine RowAt.far6 ?_ ?_) | (with_reducible refine RowAt.far1 ?_ ?_) | ((with_reducible refine RowAt.mk ?_ ?_); (focus (first | (with_reducible rfl) | (simp; done))); rfl) | (with_reducible refine RowAt.alloc ?_ _) | (with_reducible refine RowAt.run ?_ (by assumption)) | (with_reducible refine RowAt.below ?_ (by assumption) ?_) | (with_reducible refine RowAt.upd ?_ (by assumption) ?_) | (with_reducible show _ < _; first | omega | (simp; done) | (simp; omega)) | (with_reducible show ¬ _ = _; first | omega | (simp; done) | (simp; omega)) | (with_reducible exact rfl))); done)); intro hx; obtain ⟨x1, x2, x3, x4, x5, x6⟩ := row_facts hx)); (try (refine have_of (p := RowAt u2 (Z.heap.size + 1) 41 #[.int .u64 0, .int .i64 0, .int .i64 0]) ?_ ?_; (focus ((repeat' (first | (with_reducible assumption) | (with_reducible refine RowAt.drewN ?_ _) | (with_reducible refine RowAt.drew ?_) | (with_reducible apply RowAt.seven) | (with_reducible apply RowAt.six) | (with_reducible refine RowAt.far7 ?_ ?_) | (with_reducible refine RowAt.far6 ?_ ?_) | (with_reducible refine RowAt.far1 ?_ ?_) | ((with_reducible refine RowAt.mk ?_ ?_); (focus (first | (with_reducible rfl) | (simp; done))); rfl) | (with_reducible refine RowAt.alloc ?_ _) | (with_reducible refine RowAt.run ?_ (by assumption)) | (with_reducible refine RowAt.below ?_ (by assumption) ?_) | (with_reducible refine RowAt.upd ?_ (by assumption) ?_) | (with_reducible show _ < _; first | omega | (simp; done) | (simp; omega)) | (with_reducible show ¬ _ = _; first | omega | (simp; done) | (simp; omega)) | (with_reducible exact rfl))); done)); intro hx; obtain ⟨x1, x2, x3, x4, x5, x6⟩ := row_facts hx)); (try (refine have_of (p := RowAt u2 (Z.heap.size + 1) 35 #[.slice none 0 0, .slice none 0 0, .slice none 0 0]) ?_ ?_; (focus ((repeat' (first | (with_reducible assumption) | (with_reducible refine RowAt.drewN ?_ _) | (with_reducible refine RowAt.drew ?_) | (with_reducible apply RowAt.seven) | (with_reducible apply RowAt.six) | (with_reducible refine RowAt.far7 ?_ ?_) | (with_reducible refine RowAt.far6 ?_ ?_) | (with_reducible refine RowAt.far1 ?_ ?_) | ((with_reducible refine RowAt.mk ?_ ?_); (focus (first | (with_reducible rfl) | (simp; done))); rfl) | (with_reducible refine RowAt.alloc ?_ _) | (with_reducible refine RowAt.run ?_ (by assumption)) | (with_reducible refine RowAt.below ?_ (by assumption) ?_) | (with_reducible refine RowAt.upd ?_ (by assumption) ?_) | (with_reducible show _ < _; first | omega | (simp; done) | (simp; omega)) | (with_reducible show ¬ _ = _; first | omega | (simp; done) | (simp; omega)) | (with_reducible exact rfl))); done)); intro hx; obtain ⟨x1, x2, x3, x4, x5, x6⟩ := row_facts hx)); (try (refine have_of (p := RowAt u2 u1.heap.size 41 #[.int .u64 0, .int .i64 0, .int .i64 0]) ?_ ?_; (focus ((repeat' (first | (with_reducible assumption) | (with_reducible refine RowAt.drewN ?_ _) | (with_reducible refine RowAt.drew ?_) | (with_reducible apply RowAt.seven) | (with_reducible apply RowAt.six) | (with_reducible refine RowAt.far7 ?_ ?_) | (with_reducible refine RowAt.far6 ?_ ?_) | (with_reducible refine RowAt.far1 ?_ ?_) | ((with_reducible refine RowAt.mk ?_ ?_); (focus (first | (with_reducible rfl) | (simp; done))); rfl) | (with_reducible refine RowAt.alloc ?_ _) | (with_reducible refine RowAt.run ?_ (by assumption)) | (with_reducible refine RowAt.below ?_ (by assumption) ?_) | (with_reducible refine RowAt.upd ?_ (by assumption) ?_) | (with_reducible show _ < _; first | omega | (simp; done) | (simp; omega)) | (with_reducible show ¬ _ = _; first | omega | (simp; done) | (simp; omega)) | (with_reducible exact rfl))); done)); intro hx; obtain ⟨x1, x2, x3, x4, x5, x6⟩ := row_facts hx)); (try (refine have_of (p := RowAt u2 u1.heap.size 35 #[.slice none 0 0, .slice none 0 0, .slice none 0 0]) ?_ ?_; (focus ((repeat' (first | (with_reducible assumption) | (with_reducible refine RowAt.drewN ?_ _) | (with_reducible refine RowAt.drew ?_) | (with_reducible apply RowAt.seven) | (with_reducible apply RowAt.six) | (with_reducible refine RowAt.far7 ?_ ?_) | (with_reducible refine RowAt.far6 ?_ ?_) | (with_reducible refine RowAt.far1 ?_ ?_) | ((with_reducible refine RowAt.mk ?_ ?_); (focus (first | (with_reducible rfl) | (simp; done))); rfl) | (with_reducible refine RowAt.alloc ?_ _) | (with_reducible refine RowAt.run ?_ (by assumption)) | (with_reducible refine RowAt.below ?_ (by assumption) ?_) | (with_reducible refine RowAt.upd ?_ (by assumption) ?_) | (with_reducible show _ < _; first | omega | (simp; done) | (simp; omega)) | (with_reducible show ¬ _ = _; first | omega | (simp; done) | (simp; omega)) | (with_reducible exact rfl))); done)); intro hx; obtain ⟨x1, x2, x3, x4, x5, x6⟩ := row_facts hx)); (try (refine have_of (p := RowAt u2 (u1.heap.size + 1) 41 #[.int .u64 0, .int .i64 0, .int .i64 0]) ?_ ?_; (focus ((repeat' (first | (with_reducible assumption) | (with_reducible refine RowAt.drewN ?_ _) | (with_reducible refine RowAt.drew ?_) | (with_reducible apply RowAt.seven) | (with_reducible apply RowAt.six) | (with_reducible refine RowAt.far7 ?_ ?_) | (with_reducible refine RowAt.far6 ?_ ?_) | (with_reducible refine RowAt.far1 ?_ ?_) | ((with_reducible refine RowAt.mk ?_ ?_); (focus (first | (with_reducible rfl) | (simp; done))); rfl) | (with_reducible refine RowAt.alloc ?_ _) | (with_reducible refine RowAt.run ?_ (by assumption)) | (with_reducible refine RowAt.below ?_ (by assumption) ?_) | (with_reducible refine RowAt.upd ?_ (by assumption) ?_) | (with_reducible show _ < _; first | omega | (simp; done) | (simp; omega)) | (with_reducible show ¬ _ = _; first | omega | (simp; done) | (simp; omega)) | (with_reducible exact rfl))); done)); intro hx; obtain ⟨x1, x2, x3, x4, x5, x6⟩ := row_facts hx)); (try (refine have_of (p := RowAt u2 (u1.heap.size + 1) 35 #[.slice none 0 0, .slice none 0 0, .slice none 0 0]) ?_ ?_; (focus ((repeat' (first | (with_reducible assumption) | (with_reducible refine RowAt.drewN ?_ _) | (with_reducible refine RowAt.drew ?_) | (with_reducible apply RowAt.seven) | (with_reducible apply RowAt.six) | (with_reducible refine RowAt.far7 ?_ ?_) | (with_reducible refine RowAt.far6 ?_ ?_) | (with_reducible refine RowAt.far1 ?_ ?_) | ((with_reducible refine RowAt.mk ?_ ?_); (focus (first | (with_reducible rfl) | (simp; done))); rfl) | (with_reducible refine RowAt.alloc ?_ _) | (with_reducible refine RowAt.run ?_ (by assumption)) | (with_reducible refine RowAt.below ?_ (by assumption) ?_) | (with_reducible refine RowAt.upd ?_ (by assumption) ?_) | (with_reducible show _ < _; first | omega | (simp; done) | (simp; omega)) | (with_reducible show ¬ _ = _; first | omega | (simp; done) | (simp; omega)) | (with_reducible exact rfl))); done)); intro hx; obtain ⟨x1, x2, x3, x4, x5, x6⟩ := row_facts hx));  have hY2 : Below Z.heap.size Z u2 := (by (repeat' (first | (with_reducible exact Below.refl _ _) | (with_reducible assumption) | (with_reducible refine below_run ?_ (by assumption)) | (with_reducible refine below_of_upd ?_ (by assumption) ?_) | (with_reducible refine below_drewN ?_ _) | (with_reducible refine Below.drew ?_) | (with_reducible refine below_seven ?_ ?_) | (with_reducible refine below_six ?_ ?_) | (with_reducible refine below_one ?_ ?_) | (with_reducible refine Below.alloc ?_ ?_ _) | (with_reducible refine below_after ?_ ?_ (by assumption)) | (show _ ≤ _; first | omega | (simp; done) | (simp; omega))))); have hLF := lawF_of hI2 HH.out.faults HH.out.late hM2 (below_run HBZ.out hY2); obtain ⟨m0, m1, m2, m3, m4, m5, m6, m7, m8, m9⟩ := HK.out _ hY2; have hzu2 := hY2.size))
    all_goals (go_wp2_with fail; go_meet)
    all_goals (have hwz : w.heap.size ≤ Z.heap.size := hz0)
    all_goals (first
      | (with_reducible exact sends_F1 (x := ⟨pi, ps, pt⟩) hLF hY2)
      | (with_reducible exact sends_F2 (x := ⟨pi, ps, pt⟩) hLF hY2)
      | (with_reducible refine sends_F4 (x := ⟨pi, ps, pt⟩) hLF hY2 (by assumption) (by assumption) ?_ ?_ ?_ ?_ ?_ ?_ ?_)
      | (with_reducible refine sends_F3 (x := ⟨pi, ps, pt⟩) hLF hY2 (by assumption) ?_ ?_ ?_)
      | (with_reducible refine sends_F5 (x := ⟨pi, ps, pt⟩) hLF hY2 (by assumption) ?_ ?_ ?_))
    all_goals (first | omega | (simp; done) | (simp; omega))
  case rest =>
    obtain ⟨g9, g10, d3, f3, l3, ad3, o1, e1, o2, e2, o3, e3, o4, e4, rfl, rfl, rfl, rfl, r9, r10, hwr, hmr, hbc⟩ := hcut
    clear m0 m1 m2 m3 m4 m5 m6 m7 m8 m9 hbd
    rename World => X
    have hkeep : ∀ W', Below X.heap.size X W' → (W'.cell? ⟨k5, 0, none⟩ = some (.int .u64 pi) ∧ W'.cell? ⟨k5, 1, none⟩ = some (.int .i64 ps) ∧ W'.cell? ⟨k5, 2, none⟩ = some (.int .i64 pt) ∧ W'.cell? ⟨k5 + 1, 0, none⟩ = some (.slice d1 n1 c1) ∧ W'.cell? ⟨k5 + 1, 1, none⟩ = some (.slice g1 n2 c2) ∧ W'.cell? ⟨k5 + 1, 2, none⟩ = some (.slice l1 n3 c3) ∧ W'.cell? ⟨g9, 0, none⟩ = some (.int .u64 pi) ∧ W'.cell? ⟨g9, 1, none⟩ = some (.int .i64 ps) ∧ W'.cell? ⟨g9, 2, none⟩ = some (.int .i64 pt) ∧ W'.cell? ⟨g10, 0, none⟩ = some (.slice d3 o1 e1) ∧ W'.cell? ⟨g10, 1, none⟩ = some (.slice f3 o2 e2) ∧ W'.cell? ⟨g10, 2, none⟩ = some (.slice l3 o3 e3)) := by
      intro W' hb
      have hbb := below_run hbc hb
      have a0 := R5.out.run hbb
      have a1 := R6.out.run hbb
      have a2 := r9.run hb
      have a3 := r10.run hb
      exact ⟨cell_fact a0 0, cell_fact a0 1, cell_fact a0 2, cell_fact a1 0, cell_fact a1 1, cell_fact a1 2, cell_fact a2 0, cell_fact a2 1, cell_fact a2 2, cell_fact a3 0, cell_fact a3 1, cell_fact a3 2⟩
    have HKX := Lib.hid hkeep
    obtain ⟨m0, m1, m2, m3', m4, m5, m6, m7, m8, m9, m10, m11⟩ := hkeep X (Below.refl _ _)
    have hbd : Below X.heap.size X X.drew := Below.drew (Below.refl _ _)
    have HWX := Lib.hid (HWZ.out.run hbc)
    have HRX := Lib.hid hwr
    have HMX := Lib.hid (HMZ.out.run hbc)
    have HMR := Lib.hid hmr
    have HBX := Lib.hid (below_run HBZ.out hbc)
    have CO2 := Lib.hid (fun V (hb : Below X.heap.size X V) => wof_any d1 g1 l1 n1 c1 n2 c2 n3 c3 y' V (HWX.out.run hb).at (by have := HYL.out; omega))
    have z1 : (E == E) = true := by simp
    clear hkeep hwr hmr hbc r9 r10 HK HWZ HMZ HBZ R5 R6 CO C2H
    go_upto_region 5 with fail
    go_region_held3 (fun w' => w'.cell? ⟨k5, 0, none⟩ = some (.int .u64 pi) ∧ w'.cell? ⟨k5, 1, none⟩ = some (.int .i64 ps) ∧ w'.cell? ⟨k5, 2, none⟩ = some (.int .i64 pt) ∧ w'.cell? ⟨k5 + 1, 0, none⟩ = some (.slice d1 n1 c1) ∧ w'.cell? ⟨k5 + 1, 1, none⟩ = some (.slice g1 n2 c2) ∧ w'.cell? ⟨k5 + 1, 2, none⟩ = some (.slice l1 n3 c3) ∧ w'.cell? ⟨g9, 0, none⟩ = some (.int .u64 pi) ∧ w'.cell? ⟨g9, 1, none⟩ = some (.int .i64 ps) ∧ w'.cell? ⟨g9, 2, none⟩ = some (.int .i64 pt) ∧ w'.cell? ⟨g10, 0, none⟩ = some (.slice d3 o1 e1) ∧ w'.cell? ⟨g10, 1, none⟩ = some (.slice f3 o2 e2) ∧ w'.cell? ⟨g10, 2, none⟩ = some (.slice l3 o3 e3)) (first | go_keep | exact HKX.out _ (by (repeat' (first | (with_reducible exact Below.refl _ _) | (with_reducible assumption) | (with_reducible refine below_run ?_ (by assumption)) | (with_reducible refine below_of_upd ?_ (by assumption) ?_) | (with_reducible refine below_drewN ?_ _) | (with_reducible refine Below.drew ?_) | (with_reducible refine below_seven ?_ ?_) | (with_reducible refine below_six ?_ ?_) | (with_reducible refine below_one ?_ ?_) | (with_reducible refine Below.alloc ?_ ?_ _) | (with_reducible refine below_after ?_ ?_ (by assumption)) | (show _ ≤ _; first | omega | (simp; done) | (simp; omega))))))
      (first
        | (go_at_call 14; refine (CO2.out _ (by (repeat' (first | (with_reducible exact Below.refl _ _) | (with_reducible assumption) | (with_reducible refine below_run ?_ (by assumption)) | (with_reducible refine below_of_upd ?_ (by assumption) ?_) | (with_reducible refine below_drewN ?_ _) | (with_reducible refine Below.drew ?_) | (with_reducible refine below_seven ?_ ?_) | (with_reducible refine below_six ?_ ?_) | (with_reducible refine below_one ?_ ?_) | (with_reducible refine Below.alloc ?_ ?_ _) | (with_reducible refine below_after ?_ ?_ (by assumption)) | (show _ ≤ _; first | omega | (simp; done) | (simp; omega)))))).mono ?_; rintro e u3 ⟨a7, c7, rfl, hv7, hb7⟩; have hY7 : Below X.heap.size X u3 := (by (repeat' (first | (with_reducible exact Below.refl _ _) | (with_reducible assumption) | (with_reducible refine below_run ?_ (by assumption)) | (with_reducible refine below_of_upd ?_ (by assumption) ?_) | (with_reducible refine below_drewN ?_ _) | (with_reducible refine Below.drew ?_) | (with_reducible refine below_seven ?_ ?_) | (with_reducible refine below_six ?_ ?_) | (with_reducible refine below_one ?_ ?_) | (with_reducible refine Below.alloc ?_ ?_ _) | (with_reducible refine below_after ?_ ?_ (by assumption)) | (show _ ≤ _; first | omega | (simp; done) | (simp; omega))))); have hr7 := HRX.out.run hY7; clear hb7)
        | (go_at_call 25; refine (rsame_any _ _ _ _ _ _ _ _ _ _ _ _ _ _ _ _ _ _ y' _ (by first | exact hv7.r | exact hv7.r.drew) (by first | exact hr7 | exact hr7.drew)).mono ?_; rintro e u4 ⟨rfl, hb8⟩; have hY8 : Below X.heap.size X u4 := below_run hY7 (by first | exact hb8 | exact below_undrew hb8); clear hb8)
        | (go_at_call 36; refine (samemsg_any _ _ L _ (HMX.out.run hY8) (HMR.out.run hY8)).mono ?_; rintro e u5 ⟨rfl, hb9⟩; have hY9 : Below X.heap.size X u5 := below_run hY8 (by first | exact hb9 | exact below_undrew hb9); clear hb9)
        | (go_at_call 15; refine (awake49_any _).mono ?_; rintro e u6 ⟨rfl, hb10⟩; have hY10 : Below X.heap.size X u6 := below_run hY9 (by first | exact hb10 | exact below_undrew hb10); clear hb10))
    all_goals (go_wp2)
    all_goals (go_ret)
    all_goals (exact ⟨rfl, below_run HBX.out hY10⟩)
end Go.Proofs.YtpjmhhfpjhmiiaaGreat
