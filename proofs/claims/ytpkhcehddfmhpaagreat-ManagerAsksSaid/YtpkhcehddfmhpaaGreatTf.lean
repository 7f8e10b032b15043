/-
  The law's few: a world and a request are small.
  What a law keeps behind the reference's Send or Ask, whatever the order of the blocks that are made beside.
  The walk of the law ManagerSends.
-/
import Derived.Test.YtpkhcehddfmhpaaGreatQj
import Derived.Test.YtpkhcehddfmhpaaGreatQt
import Derived.Test.YtpkhcehddfmhpaaGreatTc
import Derived.Test.YtpkhcehddfmhpaaGreatQh
import Derived.Test.YtpkhcehddfmhpaaGreatSameM
namespace Go.Proofs.YtpkhcehddfmhpaaGreat
open Go.RowKit Go.Shelf

set_option maxHeartbeats 4000000 in
set_option maxRecDepth 100000 in
theorem mfew_any (q : Bool) (x : Mgr) (da fa la : Option Addr) (dn dc fn fc ln lc : Nat) (y : Wre) (dst kind par : Int) (dat : ByteArray) (w : World) (h : WireAt w (.slice da dn dc) (.slice fa fn fc) (.slice la ln lc) y) (hr : y.devs.length * 56 ≤ 140737488351232) (hq : (fewW y && decide (dat.size ≤ 1000)) = q) :
    Calls Tryz.prog 5 #[.agg #[.int .u64 x.id, .int .i64 x.seq, .int .i64 x.tries, .slice da dn dc, .slice fa fn fc, .slice la ln lc], .agg #[.int .u64 dst, .int .i64 kind, .int .i64 par, .string dat]] w fun e w' => e = .returned (.bool q) ∧ Below w.heap.size w w' := by
  obtain ⟨xi, xs, xt⟩ := x
  show Calls Tryz.prog 5 #[.agg #[.int .u64 xi, .int .i64 xs, .int .i64 xt, .slice da dn dc, .slice fa fn fc, .slice la ln lc], _] w _
  obtain ⟨W, hW⟩ : ∃ W, (w.alloc (.cells #[.int .u64 xi, .int .i64 xs, .int .i64 xt, .slice da dn dc, .slice fa fn fc, .slice la ln lc] 31)).alloc (.cells #[.int .u64 dst, .int .i64 kind, .int .i64 par, .string dat] 33) = W := ⟨_, rfl⟩
  have hbW : Below w.heap.size w W := by rw [← hW]; (repeat' (first | (with_reducible exact Below.refl _ _) | (with_reducible assumption) | (with_reducible refine below_run ?_ (by assumption)) | (with_reducible refine below_of_upd ?_ (by assumption) ?_) | (with_reducible refine below_drewN ?_ _) | (with_reducible refine Below.drew ?_) | (with_reducible refine below_seven ?_ ?_) | (with_reducible refine below_six ?_ ?_) | (with_reducible refine below_one ?_ ?_) | (with_reducible refine Below.alloc ?_ ?_ _) | (with_reducible refine below_after ?_ ?_ (by assumption)) | (show _ ≤ _; first | omega | (simp; done) | (simp; omega))))
  have r0 : RowAt W w.heap.size 31 #[.int .u64 xi, .int .i64 xs, .int .i64 xt, .slice da dn dc, .slice fa fn fc, .slice la ln lc] := by rw [← hW]; exact (RowAt.new _ _ _).alloc _
  have r1 : RowAt W (w.heap.size + 1) 33 #[.int .u64 dst, .int .i64 kind, .int .i64 par, .string dat] := by rw [← hW]; exact RowAt.mk (by simp) rfl
  obtain ⟨q1, hq1⟩ : ∃ q, fewW y = q := ⟨_, rfl⟩
  have CO := Lib.hid (wof_any da fa la dn dc fn fc ln lc y W (h.run hbW) hr)
  have HF := Lib.hid hq1
  rw [hq1] at hq
  have R1 := Lib.hid r1
  have HB := Lib.hid hbW
  obtain ⟨x1, x2, x3, x4, x5, x6⟩ := row_facts r0
  clear h hr r0 r1 hbW hq1
  go_enter Tryz.func5, Tryz.ntmps5
  go_upto_region 1 with fail
  clear hW
  go_wp2_with fail
  refine CO.out.mono ?_
  rintro e w1 ⟨a1, c1, rfl, hwa, hb1⟩
  have hb2 := below_run HB.out hb1
  have hr1 := R1.out.run hb1
  have CF := Lib.hid (rfew_any q1 a1 fa la y.devs.length c1 fn fc ln lc y w1 hwa HF.out)
  have HB2 := Lib.hid hb2
  have R2 := Lib.hid hr1
  clear hwa hb1 hb2 hr1 CO x1 x2 x3 x4 x5 x6
  cases q1 with
  | false =>
    go_wp2_with fail
    refine CF.out.mono ?_
    rintro e w2 ⟨rfl, hb3⟩
    rw [Bool.false_and] at hq
    subst hq
    go_wp2
    go_ret
    exact ⟨rfl, below_run HB2.out hb3⟩
  | true =>
    go_wp2_with fail
    refine CF.out.mono ?_
    rintro e w2 ⟨rfl, hb3⟩
    rw [Bool.true_and] at hq
    have hr3 := R2.out.run hb3
    obtain ⟨x1, x2, x3, x4, x5, x6⟩ := row_facts hr3
    have HB3 := Lib.hid (below_run HB2.out hb3)
    have HQ := Lib.hid hq
    clear hr3 hb3 hq
    go_wp2
    go_ret
    refine ⟨?_, HB3.out⟩
    rw [← HQ.out]
    congr 3
    simp
    try omega
end Go.Proofs.YtpkhcehddfmhpaaGreat

namespace Go.Proofs.YtpkhcehddfmhpaaGreat
open Go.RowKit Go.Shelf

/-- Devices lie elsewhere than a small row. -/
theorem devs_small {w w' : World} {s T : Nat} {cs : Array Value} {v : Value} {l : List Dev} (h : DevsAt w v l) (hr : RowAt w s T cs) (hz : cs.size < 6) (hu : Upd s w w') : DevsAt w' v l :=
  SeqAt.same h hu.size fun b off cap e h0 hc => by
    have q6 : w.cell? ⟨b, off + 6, none⟩ = some (.bool (l[0]'h0).idf) := by
      rw [hc 6 (by omega)]
      simp [devsC, List.getElem?_eq_getElem h0, devA]
    refine hu.block b (World.block_lt_of_cell? w _ q6) (fun e => ?_)
    cases e
    rw [cell_fact hr] at q6
    have := (Array.getElem?_eq_some_iff.1 q6).1
    omega
/-- What a law keeps. -/
structure LawF (K B : Nat) (w0 w : World) (dv fv lv mv : Value) (y : Wre) (L : List Msg) : Prop where
  devs : DevsAt w dv y.devs
  faults : IntsAt w0 fv y.faults
  late : StrsAt w lv y.late
  lout : OutB K B lv y.late.length
  msgs : MsgsAt w mv L
  below : Below w0.heap.size w0 w
section
variable {K B : Nat} {w0 w : World} {dv fv lv mv : Value} {y : Wre} {L : List Msg}
theorem LawF.upd {w' : World} {b T : Nat} {cs : Array Value} (h : LawF K B w0 w dv fv lv mv y L) (hr : RowAt w b T cs) (hz : cs.size < 6) (hK : w0.heap.size ≤ K) (h1 : K ≤ b) (h2 : b < B) (hu : Upd b w w') : LawF K B w0 w' dv fv lv mv y L :=
  ⟨devs_small h.devs hr hz hu, h.faults, seq_out h.late h.lout h1 h2 hu, h.lout, msgs_small h.msgs hr hz hu, below_of_upd h.below hu (by omega)⟩
theorem LawF.run {w' : World} (h : LawF K B w0 w dv fv lv mv y L) (hb : Below w.heap.size w w') : LawF K B w0 w' dv fv lv mv y L :=
  ⟨h.devs.below hb, h.faults, h.late.runM hb, h.lout, MsgsAt.run h.msgs hb, below_run h.below hb⟩
theorem LawF.alloc (h : LawF K B w0 w dv fv lv mv y L) (o : Obj) : LawF K B w0 (w.alloc o) dv fv lv mv y L := h.run ((Below.refl _ _).alloc (Nat.le_refl _) o)
theorem LawF.drew (h : LawF K B w0 w dv fv lv mv y L) : LawF K B w0 w.drew dv fv lv mv y L := h.run (Below.drew (Below.refl _ _))
theorem LawF.set3 {b T : Nat} {a0 a1 a2 u0 u1 u2 : Value} (h : LawF K B w0 w dv fv lv mv y L) (hr : RowAt w b T #[a0, a1, a2]) (hK : w0.heap.size ≤ K) (h1 : K ≤ b) (h2 : b < B) : LawF K B w0 (((w.setCell ⟨b, 0, none⟩ u0).setCell ⟨b, 1, none⟩ u1).setCell ⟨b, 2, none⟩ u2) dv fv lv mv y L := h.upd hr (by show (3 : Nat) < 6; omega) hK h1 h2 upd3
theorem LawF.set4 {b T : Nat} {a0 a1 a2 a3 u0 u1 u2 u3 : Value} (h : LawF K B w0 w dv fv lv mv y L) (hr : RowAt w b T #[a0, a1, a2, a3]) (hK : w0.heap.size ≤ K) (h1 : K ≤ b) (h2 : b < B) : LawF K B w0 ((((w.setCell ⟨b, 0, none⟩ u0).setCell ⟨b, 1, none⟩ u1).setCell ⟨b, 2, none⟩ u2).setCell ⟨b, 3, none⟩ u3) dv fv lv mv y L := h.upd hr (by show (4 : Nat) < 6; omega) hK h1 h2 upd4
theorem LawF.r (h : LawF K B w0 w dv fv lv mv y L) : WireR w dv fv lv y := ⟨h.devs, h.faults.run h.below, h.late⟩
end
theorem lawF_of {w0 w1 w2 : World} {dv0 fv0 lv0 dv fv lv mv : Value} {y0 y : Wre} {L : List Msg} (h : WireI w1.heap.size w1.heap.size w1 w2 dv0 fv0 lv0 y0 dv fv lv y) (hf : IntsAt w0 fv0 y0.faults) (hl : StrsAt w0 lv0 y0.late) (hm : MsgsAt w2 mv L) (hb : Below w0.heap.size w0 w2) : LawF w0.heap.size w1.heap.size w0 w2 dv fv lv mv y L :=
  ⟨h.devs, h.hf w0 hf, h.late, out_of hl h.hl (Nat.le_refl _) h.late, hm, hb⟩
end Go.Proofs.YtpkhcehddfmhpaaGreat

namespace Go.Proofs.YtpkhcehddfmhpaaGreat
open Go.RowKit Go.Shelf

/-- What is so behind the reference's Send. -/
def SendsCut (x : Mgr) (y : Wre) (L : List Msg) (E : Int) (Z : World) (s9 s10 s11 s12 : Value) (wx : World) : Prop :=
  ∃ (g9 g10 : Nat) (d3 f3 l3 m3 : Option Addr), ∃ n1 c1 n2 c2 n3 c3 n4 c4 : Nat, s9 = .pointer (some ⟨g9, 0, none⟩) ∧ s10 = .pointer (some ⟨g10, 0, none⟩) ∧ s11 = .slice m3 n4 c4 ∧ s12 = .int .i64 E ∧
    RowAt wx g9 41 #[.int .u64 x.id, .int .i64 x.seq, .int .i64 x.tries] ∧ RowAt wx g10 44 #[.slice d3 n1 c1, .slice f3 n2 c2, .slice l3 n3 c3] ∧
    WireR wx (.slice d3 n1 c1) (.slice f3 n2 c2) (.slice l3 n3 c3) y ∧ MsgsAt wx (.slice m3 n4 c4) L ∧ Below Z.heap.size Z wx
theorem sends_cut {K B : Nat} {w0 wx Z : World} {x : Mgr} {y : Wre} {L : List Msg} {E : Int} {g9 g10 : Nat} {d3 f3 l3 m3 : Option Addr} {n1 c1 n2 c2 n3 c3 n4 c4 : Nat} (F : LawF K B w0 wx (.slice d3 n1 c1) (.slice f3 n2 c2) (.slice l3 n3 c3) (.slice m3 n4 c4) y L)
    (r9 : RowAt wx g9 41 #[.int .u64 x.id, .int .i64 x.seq, .int .i64 x.tries]) (r10 : RowAt wx g10 44 #[.slice d3 n1 c1, .slice f3 n2 c2, .slice l3 n3 c3]) (hb : Below Z.heap.size Z wx) :
    SendsCut x y L E Z (.pointer (some ⟨g9, 0, none⟩)) (.pointer (some ⟨g10, 0, none⟩)) (.slice m3 n4 c4) (.int .i64 E) wx :=
  ⟨g9, g10, d3, f3, l3, m3, n1, c1, n2, c2, n3, c3, n4, c4, rfl, rfl, rfl, rfl, r9, r10, F.r, F.msgs, hb⟩
section
variable {B : Nat} {w u2 Z : World} {x : Mgr} {y : Wre} {L : List Msg} {E : Int} {d3 f3 l3 m3 : Option Addr} {n1 c1 n2 c2 n3 c3 n4 c4 : Nat}
theorem sends_F1 (F : LawF w.heap.size B w u2 (.slice d3 n1 c1) (.slice f3 n2 c2) (.slice l3 n3 c3) (.slice m3 n4 c4) y L) (hb : Below Z.heap.size Z u2) :
    SendsCut x y L E Z (.pointer (some ⟨u2.heap.size, 0, none⟩)) (.pointer (some ⟨u2.heap.size + 1, 0, none⟩)) (.slice m3 n4 c4) (.int .i64 E) ((u2.alloc (.cells #[.int .u64 x.id, .int .i64 x.seq, .int .i64 x.tries] 41)).alloc (.cells #[.slice d3 n1 c1, .slice f3 n2 c2, .slice l3 n3 c3] 44)) :=
  sends_cut ((F.alloc _).alloc _) ((RowAt.new _ _ _).alloc _) (RowAt.mk (by simp) rfl) ((hb.alloc hb.size _).alloc (by have := hb.size; simp; omega) _)
theorem sends_F2 (F : LawF w.heap.size B w u2 (.slice d3 n1 c1) (.slice f3 n2 c2) (.slice l3 n3 c3) (.slice m3 n4 c4) y L) (hb : Below Z.heap.size Z u2) :
    SendsCut x y L E Z (.pointer (some ⟨u2.heap.size + 1, 0, none⟩)) (.pointer (some ⟨u2.heap.size, 0, none⟩)) (.slice m3 n4 c4) (.int .i64 E) ((u2.alloc (.cells #[.slice d3 n1 c1, .slice f3 n2 c2, .slice l3 n3 c3] 44)).alloc (.cells #[.int .u64 x.id, .int .i64 x.seq, .int .i64 x.tries] 41)) :=
  sends_cut ((F.alloc _).alloc _) (RowAt.mk (by simp) rfl) ((RowAt.new _ _ _).alloc _) ((hb.alloc hb.size _).alloc (by have := hb.size; simp; omega) _)
theorem sends_F3 {g9 : Nat} {a0 a1 a2 : Value} (F : LawF w.heap.size B w u2 (.slice d3 n1 c1) (.slice f3 n2 c2) (.slice l3 n3 c3) (.slice m3 n4 c4) y L) (hb : Below Z.heap.size Z u2) (r : RowAt u2 g9 41 #[a0, a1, a2]) (h1 : w.heap.size ≤ g9) (h2 : g9 < B) (h3 : Z.heap.size ≤ g9) :
    SendsCut x y L E Z (.pointer (some ⟨g9, 0, none⟩)) (.pointer (some ⟨u2.heap.size, 0, none⟩)) (.slice m3 n4 c4) (.int .i64 E) ((((u2.setCell ⟨g9, 0, none⟩ (.int .u64 x.id)).setCell ⟨g9, 1, none⟩ (.int .i64 x.seq)).setCell ⟨g9, 2, none⟩ (.int .i64 x.tries)).alloc (.cells #[.slice d3 n1 c1, .slice f3 n2 c2, .slice l3 n3 c3] 44)) :=
  sends_cut ((F.set3 r (Nat.le_refl _) h1 h2).alloc _) ((row3 r).alloc _) (RowAt.mk (by simp) rfl) ((below_three hb h3).alloc (by have := hb.size; simp; omega) _)
theorem sends_F4 {g9 g10 : Nat} {a0 a1 a2 b0 b1 b2 : Value} (F : LawF w.heap.size B w u2 (.slice d3 n1 c1) (.slice f3 n2 c2) (.slice l3 n3 c3) (.slice m3 n4 c4) y L) (hb : Below Z.heap.size Z u2) (r : RowAt u2 g9 41 #[a0, a1, a2]) (r' : RowAt u2 g10 44 #[b0, b1, b2]) (h1 : w.heap.size ≤ g9) (h2 : g9 < B) (h3 : Z.heap.size ≤ g9) (h4 : w.heap.size ≤ g10) (h5 : g10 < B) (h6 : Z.heap.size ≤ g10) (hne : ¬ g10 = g9) :
    SendsCut x y L E Z (.pointer (some ⟨g9, 0, none⟩)) (.pointer (some ⟨g10, 0, none⟩)) (.slice m3 n4 c4) (.int .i64 E) (((((((u2.setCell ⟨g9, 0, none⟩ (.int .u64 x.id)).setCell ⟨g9, 1, none⟩ (.int .i64 x.seq)).setCell ⟨g9, 2, none⟩ (.int .i64 x.tries)).setCell ⟨g10, 0, none⟩ (.slice d3 n1 c1)).setCell ⟨g10, 1, none⟩ (.slice f3 n2 c2)).setCell ⟨g10, 2, none⟩ (.slice l3 n3 c3))) :=
  sends_cut ((F.set3 r (Nat.le_refl _) h1 h2).set3 (r'.far3 hne) (Nat.le_refl _) h4 h5) ((row3 r).far3 (fun e => hne e.symm)) (row3 (r'.far3 hne)) (below_three (below_three hb h3) h6)
theorem sends_F5 {g10 : Nat} {b0 b1 b2 : Value} (F : LawF w.heap.size B w u2 (.slice d3 n1 c1) (.slice f3 n2 c2) (.slice l3 n3 c3) (.slice m3 n4 c4) y L) (hb : Below Z.heap.size Z u2) (r' : RowAt u2 g10 44 #[b0, b1, b2]) (h4 : w.heap.size ≤ g10) (h5 : g10 < B) (h6 : Z.heap.size ≤ g10) :
    SendsCut x y L E Z (.pointer (some ⟨u2.heap.size, 0, none⟩)) (.pointer (some ⟨g10, 0, none⟩)) (.slice m3 n4 c4) (.int .i64 E) ((((u2.setCell ⟨g10, 0, none⟩ (.slice d3 n1 c1)).setCell ⟨g10, 1, none⟩ (.slice f3 n2 c2)).setCell ⟨g10, 2, none⟩ (.slice l3 n3 c3)).alloc (.cells #[.int .u64 x.id, .int .i64 x.seq, .int .i64 x.tries] 41)) :=
  sends_cut ((F.set3 r' (Nat.le_refl _) h4 h5).alloc _) (RowAt.mk (by simp) rfl) ((row3 r').alloc _) ((below_three hb h6).alloc (by have := hb.size; simp; omega) _)
end

end Go.Proofs.YtpkhcehddfmhpaaGreat
