/-
  The examples of the chapter on asking devices.
  The chapter's examples hold: the walk.
-/
import Derived.Test.YtpkhcehddfmhpaaGreatQd
import Derived.Test.YtpkhcehddfmhpaaGreatMo
import Derived.Test.YtpkhcehddfmhpaaGreatTopW
namespace Go.Proofs.YtpkhcehddfmhpaaGreat
open Go.RowKit Go.Shelf

theorem devs_line {w : World} {b T : Nat} {cs : Array Value} {l : List Dev} (hr : RowAt w b T cs) (hcs : cs.toList = devsL l) (h0 : 0 < l.length) (h1 : l.length ≤ 1000) : DevsAt w (.slice (some ⟨b, 0, none⟩) l.length l.length) l :=
  .inr ⟨h0, by omega, b, 0, _, rfl, lt_of_block hr, fun j _ => by rw [Nat.zero_add, cell_fact hr, ← Array.getElem?_toList, hcs, devsL_get]⟩
theorem ints_line {w : World} {b T : Nat} {cs : Array Value} {l : List Int} (hr : RowAt w b T cs) (hcs : cs.toList = i64L l) (h0 : 0 < l.length) (h1 : l.length ≤ 1000) : IntsAt w (.slice (some ⟨b, 0, none⟩) l.length l.length) l :=
  .inr ⟨h0, by omega, b, 0, _, rfl, lt_of_block hr, fun j _ => by rw [Nat.zero_add, cell_fact hr, ← Array.getElem?_toList, hcs, i64L_get]⟩
def dev5 : Dev := ⟨5, 4, 1, ⟨#[]⟩, 0, false, false⟩
theorem new5 : newD 5 4 = (dev5, 0) := by kernel_rfl
theorem mgr9 : newMgr 9 3 = ⟨9, 0, 3⟩ := by kernel_rfl
theorem mgr9e : mgrE ⟨9, 0, 3⟩ = 0 := by kernel_rfl

set_option maxHeartbeats 4000000 in
set_option maxRecDepth 100000 in
theorem five_any (fa : Option Addr) (fn fc : Nat) (w : World) :
    Calls Tryz.prog 21 #[.slice fa fn fc] w fun e w' => ∃ k, e = .returned (.agg #[.int .u64 9, .int .i64 0, .int .i64 3, .slice (some ⟨k, 0, none⟩) 1 1, .slice fa fn fc, .slice none 0 0]) ∧ DevsAt w' (.slice (some ⟨k, 0, none⟩) 1 1) [dev5] ∧ Below w.heap.size w w' := by
  have CN := Lib.hid (fun W => new_top 5 4 W)
  have CM := Lib.hid (fun W => mnew_any 9 3 W)
  rw [new5] at CN
  rw [mgr9, mgr9e] at CM
  have r0 : RowAt (w.alloc (.cells #[.int .u64 0, .int .i64 0, .int .i64 0, .slice none 0 0, .slice none 0 0, .slice none 0 0] 31)) w.heap.size 31 #[.int .u64 0, .int .i64 0, .int .i64 0, .slice none 0 0, .slice none 0 0, .slice none 0 0] := RowAt.new _ _ _
  have hb0 : Below w.heap.size w (w.alloc (.cells #[.int .u64 0, .int .i64 0, .int .i64 0, .slice none 0 0, .slice none 0 0, .slice none 0 0] 31)) := (Below.refl _ _).alloc (Nat.le_refl _) _
  have R0 := Lib.hid r0
  have HB0 := Lib.hid hb0
  clear r0 hb0
  go_enter Tryz.func21, Tryz.ntmps21
  go_wp2_with fail
  refine (CN.out _).mono ?_
  rintro e w1 ⟨rfl, hb1⟩
  have R1 := Lib.hid ((R0.out.run hb1).alloc (.cells (devA dev5) 91))
  have D1 := Lib.hid (show RowAt (w1.alloc (.cells (devA dev5) 91)) w1.heap.size 91 #[.int .u64 5, .int .i64 4, .int .i64 1, .string ⟨#[]⟩, .int .i64 0, .bool false, .bool false] from RowAt.new _ _ _)
  have HB1 := Lib.hid (((below_run HB0.out hb1).alloc (below_run HB0.out hb1).size (.cells (devA dev5) 91)))
  clear hb1
  go_wp2_with fail
  refine (CM.out _).mono ?_
  rintro e w2 ⟨rfl, hb2⟩
  have R2 := Lib.hid ((R1.out.run hb2).alloc (.cells #[.int .u64 9, .int .i64 0, .int .i64 3] 24))
  have r2 := R2.out
  have d2 := (D1.out.run hb2).alloc (.cells #[.int .u64 9, .int .i64 0, .int .i64 3] 24)
  have HB2 := Lib.hid ((below_run HB1.out hb2).alloc (below_run HB1.out hb2).size (.cells #[.int .u64 9, .int .i64 0, .int .i64 3] 24))
  obtain ⟨x1, x2, x3, x4, x5, x6⟩ := row_facts d2
  obtain ⟨y1, y2, y3, y4, y5, y6⟩ := row_facts r2
  have hz2 := HB2.out.size
  have r3 := R2.out.alloc (.cells #[.int .u64 5, .int .i64 4, .int .i64 1, .string ⟨#[]⟩, .int .i64 0, .bool false, .bool false] 91)
  obtain ⟨z1, z2, z3, z4, z5, z6⟩ := row_facts r3
  have e0 := cell_fact r3 0
  have e1 := cell_fact r3 1
  have e2 := cell_fact r3 2
  have e3 := cell_fact r3 3
  have e4 := cell_fact r3 4
  have e5 := cell_fact r3 5
  simp only [List.getElem?_toArray] at e0 e1 e2 e3 e4 e5
  have R3 := Lib.hid r3
  clear hb2 r2 d2 r3
  go_wp2
  have hF : RowAt ((((((((w2.alloc (.cells #[.int .u64 9, .int .i64 0, .int .i64 3] 24)).alloc (.cells #[.int .u64 5, .int .i64 4, .int .i64 1, .string ⟨#[]⟩, .int .i64 0, .bool false, .bool false] 91)).setCell ⟨w.heap.size, 0, none⟩ (.int .u64 9)).setCell ⟨w.heap.size, 1, none⟩ (.int .i64 0)).setCell ⟨w.heap.size, 2, none⟩ (.int .i64 3)).setCell ⟨w.heap.size, 3, none⟩ (.slice (some ⟨w2.heap.size + 1, 0, none⟩) 1 1)).setCell ⟨w.heap.size, 4, none⟩ (.slice fa fn fc)).setCell ⟨w.heap.size, 5, none⟩ (.slice none 0 0)) w.heap.size 31 #[.int .u64 9, .int .i64 0, .int .i64 3, .slice (some ⟨w2.heap.size + 1, 0, none⟩) 1 1, .slice fa fn fc, .slice none 0 0] := RowAt.six R3.out
  have hD : RowAt ((((((((w2.alloc (.cells #[.int .u64 9, .int .i64 0, .int .i64 3] 24)).alloc (.cells #[.int .u64 5, .int .i64 4, .int .i64 1, .string ⟨#[]⟩, .int .i64 0, .bool false, .bool false] 91)).setCell ⟨w.heap.size, 0, none⟩ (.int .u64 9)).setCell ⟨w.heap.size, 1, none⟩ (.int .i64 0)).setCell ⟨w.heap.size, 2, none⟩ (.int .i64 3)).setCell ⟨w.heap.size, 3, none⟩ (.slice (some ⟨w2.heap.size + 1, 0, none⟩) 1 1)).setCell ⟨w.heap.size, 4, none⟩ (.slice fa fn fc)).setCell ⟨w.heap.size, 5, none⟩ (.slice none 0 0)) (w2.heap.size + 1) 91 #[.int .u64 5, .int .i64 4, .int .i64 1, .string ⟨#[]⟩, .int .i64 0, .bool false, .bool false] := RowAt.far6 (RowAt.mk (by simp) rfl) (by have h9 := lt_of_block R2.out; simp at h9; omega)
  have hB : Below w.heap.size w ((((((((w2.alloc (.cells #[.int .u64 9, .int .i64 0, .int .i64 3] 24)).alloc (.cells #[.int .u64 5, .int .i64 4, .int .i64 1, .string ⟨#[]⟩, .int .i64 0, .bool false, .bool false] 91)).setCell ⟨w.heap.size, 0, none⟩ (.int .u64 9)).setCell ⟨w.heap.size, 1, none⟩ (.int .i64 0)).setCell ⟨w.heap.size, 2, none⟩ (.int .i64 3)).setCell ⟨w.heap.size, 3, none⟩ (.slice (some ⟨w2.heap.size + 1, 0, none⟩) 1 1)).setCell ⟨w.heap.size, 4, none⟩ (.slice fa fn fc)).setCell ⟨w.heap.size, 5, none⟩ (.slice none 0 0)) := below_six (HB2.out.alloc HB2.out.size _) (Nat.le_refl _)
  have f0 := cell_fact hF 0
  have f1 := cell_fact hF 1
  have f2 := cell_fact hF 2
  have f3 := cell_fact hF 3
  have f4 := cell_fact hF 4
  have f5 := cell_fact hF 5
  simp only [List.getElem?_toArray] at f0 f1 f2 f3 f4 f5
  refine bodyPost_ret (v := .agg #[.int .u64 9, .int .i64 0, .int .i64 3, .slice (some ⟨w2.heap.size + 1, 0, none⟩) 1 1, .slice fa fn fc, .slice none 0 0]) ?_ rfl ⟨w2.heap.size + 1, rfl, devs_line (l := [dev5]) hD rfl (by decide) (by decide), hB⟩
  simp [results, Tryz.results21, go_sem, f0, f1, f2, f3, f4, f5]

set_option maxHeartbeats 1000000 in
theorem get_any (x : Int) (w : World) : Calls Tryz.prog 22 #[.int .u64 x] w fun e w' => e = .returned (.agg #[.int .u64 x, .int .i64 4, .int .i64 240, .string ⟨#[]⟩]) ∧ Below w.heap.size w w' := by
  go_enter Tryz.func22, Tryz.ntmps22
  go_wp2
  refine bodyPost_ret (v := .agg #[.int .u64 x, .int .i64 4, .int .i64 240, .string ⟨#[]⟩]) ?_ rfl ⟨rfl, by (repeat' (first | (with_reducible exact Below.refl _ _) | (with_reducible assumption) | (with_reducible refine below_run ?_ (by assumption)) | (with_reducible refine below_of_upd ?_ (by assumption) ?_) | (with_reducible refine below_drewN ?_ _) | (with_reducible refine Below.drew ?_) | (with_reducible refine below_seven ?_ ?_) | (with_reducible refine below_six ?_ ?_) | (with_reducible refine below_one ?_ ?_) | (with_reducible refine Below.alloc ?_ ?_ _) | (with_reducible refine below_after ?_ ?_ (by assumption)) | (show _ ≤ _; first | omega | (simp; done) | (simp; omega))))⟩
  simp [results, Tryz.results22, go_sem]
def m9 : Mgr := ⟨9, 0, 3⟩
theorem aw0_e : askE m9 ⟨[dev5], [], []⟩ ⟨5, 4, 240, ⟨#[]⟩⟩ = 0 := by kernel_rfl
theorem aw0_a : (askU m9 ⟨[dev5], [], []⟩ ⟨5, 4, 240, ⟨#[]⟩⟩).2.2 = ⟨0, ⟨#[0, 1]⟩, 0, 1⟩ := by kernel_rfl
theorem aw1_e : askE m9 ⟨[dev5], [1, 2], []⟩ ⟨5, 4, 240, ⟨#[]⟩⟩ = 0 := by kernel_rfl
theorem aw1_a : (askU m9 ⟨[dev5], [1, 2], []⟩ ⟨5, 4, 240, ⟨#[]⟩⟩).2.2 = ⟨0, ⟨#[0, 1]⟩, 0, 3⟩ := by kernel_rfl
theorem aw2_e : askE m9 ⟨[dev5], [1, 1, 1], []⟩ ⟨5, 4, 240, ⟨#[]⟩⟩ = 0 := by kernel_rfl
theorem aw2_a : (askU m9 ⟨[dev5], [1, 1, 1], []⟩ ⟨5, 4, 240, ⟨#[]⟩⟩).2.2 = ⟨2, ⟨#[]⟩, 0, 3⟩ := by kernel_rfl
theorem aw3_e : askE m9 ⟨[dev5], [4], []⟩ ⟨5, 4, 240, ⟨#[]⟩⟩ = 0 := by kernel_rfl
theorem aw3_a : (askU m9 ⟨[dev5], [4], []⟩ ⟨5, 4, 240, ⟨#[]⟩⟩).2.2 = ⟨0, ⟨#[0, 1]⟩, 0, 2⟩ := by kernel_rfl
theorem aw4_e : askE m9 ⟨[dev5], [], []⟩ ⟨5, 5, 240, ⟨#[1, 254]⟩⟩ = 0 := by kernel_rfl
theorem aw4_a : (askU m9 ⟨[dev5], [], []⟩ ⟨5, 5, 240, ⟨#[1, 254]⟩⟩).2.2 = ⟨1, ⟨#[]⟩, 3, 1⟩ := by kernel_rfl
theorem aw5_e : askE m9 ⟨[dev5], [], []⟩ ⟨6, 4, 240, ⟨#[]⟩⟩ = 0 := by kernel_rfl
theorem aw5_a : (askU m9 ⟨[dev5], [], []⟩ ⟨6, 4, 240, ⟨#[]⟩⟩).2.2 = ⟨2, ⟨#[]⟩, 0, 3⟩ := by kernel_rfl

theorem aw_ask (y : Wre) (dst kind par : Int) (dat : ByteArray) (a : Rsl) (he : askE m9 y ⟨dst, kind, par, dat⟩ = 0) (ha : (askU m9 y ⟨dst, kind, par, dat⟩).2.2 = a) (da fa la : Option Addr) (dn dc fn fc ln lc : Nat) (w : World) (h : WireAt w (.slice da dn dc) (.slice fa fn fc) (.slice la ln lc) y) :
    Calls Tryz.prog 7 #[.agg #[.int .u64 9, .int .i64 0, .int .i64 3], .agg #[.slice da dn dc, .slice fa fn fc, .slice la ln lc], .agg #[.int .u64 dst, .int .i64 kind, .int .i64 par, .string dat]] w
      fun e w' => ∃ (x' : Mgr) (da fa la : Option Addr) (dn dc fn fc ln lc : Nat), e = .returned (.tuple #[.agg #[.int .u64 x'.id, .int .i64 x'.seq, .int .i64 x'.tries], .agg #[.slice da dn dc, .slice fa fn fc, .slice la ln lc], .agg #[.int .i64 a.kind, .string a.dat, .int .i64 a.reason, .int .i64 a.tries], .int .i64 0]) ∧ Below w.heap.size w w' := by
  refine (maskU_any m9 da fa la dn dc fn fc ln lc y dst kind par dat w h).mono ?_
  rintro e w' ⟨da', fa', la', dn', dc', fn', fc', ln', lc', rfl, -, hb⟩
  rw [he, ha]
  exact ⟨_, _, _, _, _, _, _, _, _, _, rfl, hb⟩
end Go.Proofs.YtpkhcehddfmhpaaGreat

namespace Go.Proofs.YtpkhcehddfmhpaaGreat
open Go.RowKit Go.Shelf

set_option maxHeartbeats 8000000 in
set_option maxRecDepth 100000 in
theorem awake49_any (w : World) : Calls Tryz.prog 6 #[] w fun e w' => e = .returned (.bool true) ∧ Below w.heap.size w w' := by
  have CF := Lib.hid (@five_any)
  have CG := Lib.hid (@get_any)
  have HB0 := Lib.hid (Below.refl w.heap.size w)
  go_enter Tryz.func6, Tryz.ntmps6
  go_wp2_with fail
  refine (CF.out _ _ _ _).mono ?_
  rintro e w1 ⟨k0, rfl, hd, hb⟩
  have D0 := Lib.hid hd
  have HY0 := Lib.hid (below_run HB0.out hb)
  clear hd hb
  go_wp2_with fail
  refine (CG.out 5 _).mono ?_
  rintro e w2 ⟨rfl, hb⟩
  have D0 := Lib.hid (D0.out.below hb)
  have HZ0 := Lib.hid (below_run HY0.out hb)
  clear hb
  have I1 := Lib.hid (show IntsAt (w2.alloc (.cells #[.int .i64 1, .int .i64 2] 3)) (.slice (some ⟨w2.heap.size, 0, none⟩) 2 2) [1, 2] from ints_line (l := [1, 2]) (RowAt.new _ _ _) rfl (by decide) (by decide))
  have hal := (Below.refl w2.heap.size w2).alloc (Nat.le_refl _) (.cells #[.int .i64 1, .int .i64 2] 3)
  have HX1 := Lib.hid (below_run HZ0.out hal)
  have D0 := Lib.hid (D0.out.below hal)
  clear hal
  go_wp2_with fail
  refine (CF.out _ _ _ _).mono ?_
  rintro e w3 ⟨k1, rfl, hd, hb⟩
  have D0 := Lib.hid (D0.out.below hb)
  have I1 := Lib.hid (I1.out.run hb)
  have D1 := Lib.hid hd
  have HY1 := Lib.hid (below_run HX1.out hb)
  clear hd hb
  go_wp2_with fail
  refine (CG.out 5 _).mono ?_
  rintro e w4 ⟨rfl, hb⟩
  have D0 := Lib.hid (D0.out.below hb)
  have I1 := Lib.hid (I1.out.run hb)
  have D1 := Lib.hid (D1.out.below hb)
  have HZ1 := Lib.hid (below_run HY1.out hb)
  clear hb
  have I2 := Lib.hid (show IntsAt (w4.alloc (.cells #[.int .i64 1, .int .i64 1, .int .i64 1] 3)) (.slice (some ⟨w4.heap.size, 0, none⟩) 3 3) [1, 1, 1] from ints_line (l := [1, 1, 1]) (RowAt.new _ _ _) rfl (by decide) (by decide))
  have hal := (Below.refl w4.heap.size w4).alloc (Nat.le_refl _) (.cells #[.int .i64 1, .int .i64 1, .int .i64 1] 3)
  have HX2 := Lib.hid (below_run HZ1.out hal)
  have D0 := Lib.hid (D0.out.below hal)
  have I1 := Lib.hid (I1.out.run hal)
  have D1 := Lib.hid (D1.out.below hal)
  clear hal
  go_wp2_with fail
  refine (CF.out _ _ _ _).mono ?_
  rintro e w5 ⟨k2, rfl, hd, hb⟩
  have D0 := Lib.hid (D0.out.below hb)
  have I1 := Lib.hid (I1.out.run hb)
  have D1 := Lib.hid (D1.out.below hb)
  have I2 := Lib.hid (I2.out.run hb)
  have D2 := Lib.hid hd
  have HY2 := Lib.hid (below_run HX2.out hb)
  clear hd hb
  go_wp2_with fail
  refine (CG.out 5 _).mono ?_
  rintro e w6 ⟨rfl, hb⟩
  have D0 := Lib.hid (D0.out.below hb)
  have I1 := Lib.hid (I1.out.run hb)
  have D1 := Lib.hid (D1.out.below hb)
  have I2 := Lib.hid (I2.out.run hb)
  have D2 := Lib.hid (D2.out.below hb)
  have HZ2 := Lib.hid (below_run HY2.out hb)
  clear hb
  have I3 := Lib.hid (show IntsAt (w6.alloc (.cells #[.int .i64 4] 3)) (.slice (some ⟨w6.heap.size, 0, none⟩) 1 1) [4] from ints_line (l := [4]) (RowAt.new _ _ _) rfl (by decide) (by decide))
  have hal := (Below.refl w6.heap.size w6).alloc (Nat.le_refl _) (.cells #[.int .i64 4] 3)
  have HX3 := Lib.hid (below_run HZ2.out hal)
  have D0 := Lib.hid (D0.out.below hal)
  have I1 := Lib.hid (I1.out.run hal)
  have D1 := Lib.hid (D1.out.below hal)
  have I2 := Lib.hid (I2.out.run hal)
  have D2 := Lib.hid (D2.out.below hal)
  clear hal
  go_wp2_with fail
  refine (CF.out _ _ _ _).mono ?_
  rintro e w7 ⟨k3, rfl, hd, hb⟩
  have D0 := Lib.hid (D0.out.below hb)
  have I1 := Lib.hid (I1.out.run hb)
  have D1 := Lib.hid (D1.out.below hb)
  have I2 := Lib.hid (I2.out.run hb)
  have D2 := Lib.hid (D2.out.below hb)
  have I3 := Lib.hid (I3.out.run hb)
  have D3 := Lib.hid hd
  have HY3 := Lib.hid (below_run HX3.out hb)
  clear hd hb
  go_wp2_with fail
  refine (CG.out 5 _).mono ?_
  rintro e w8 ⟨rfl, hb⟩
  have D0 := Lib.hid (D0.out.below hb)
  have I1 := Lib.hid (I1.out.run hb)
  have D1 := Lib.hid (D1.out.below hb)
  have I2 := Lib.hid (I2.out.run hb)
  have D2 := Lib.hid (D2.out.below hb)
  have I3 := Lib.hid (I3.out.run hb)
  have D3 := Lib.hid (D3.out.below hb)
  have HZ3 := Lib.hid (below_run HY3.out hb)
  clear hb
  go_wp2_with fail
  refine (CF.out _ _ _ _).mono ?_
  rintro e w9 ⟨k4, rfl, hd, hb⟩
  have D0 := Lib.hid (D0.out.below hb)
  have I1 := Lib.hid (I1.out.run hb)
  have D1 := Lib.hid (D1.out.below hb)
  have I2 := Lib.hid (I2.out.run hb)
  have D2 := Lib.hid (D2.out.below hb)
  have I3 := Lib.hid (I3.out.run hb)
  have D3 := Lib.hid (D3.out.below hb)
  have D4 := Lib.hid hd
  have HY4 := Lib.hid (below_run HZ3.out hb)
  clear hd hb
  go_wp2_with fail
  refine (CF.out _ _ _ _).mono ?_
  rintro e w11 ⟨k5, rfl, hd, hb⟩
  have D0 := Lib.hid (D0.out.below hb)
  have I1 := Lib.hid (I1.out.run hb)
  have D1 := Lib.hid (D1.out.below hb)
  have I2 := Lib.hid (I2.out.run hb)
  have D2 := Lib.hid (D2.out.below hb)
  have I3 := Lib.hid (I3.out.run hb)
  have D3 := Lib.hid (D3.out.below hb)
  have D4 := Lib.hid (D4.out.below hb)
  have D5 := Lib.hid hd
  have HY5 := Lib.hid (below_run HY4.out hb)
  clear hd hb
  go_wp2_with fail
  refine (CG.out 6 _).mono ?_
  rintro e w12 ⟨rfl, hb⟩
  have D0 := Lib.hid (D0.out.below hb)
  have I1 := Lib.hid (I1.out.run hb)
  have D1 := Lib.hid (D1.out.below hb)
  have I2 := Lib.hid (I2.out.run hb)
  have D2 := Lib.hid (D2.out.below hb)
  have I3 := Lib.hid (I3.out.run hb)
  have D3 := Lib.hid (D3.out.below hb)
  have D4 := Lib.hid (D4.out.below hb)
  have D5 := Lib.hid (D5.out.below hb)
  have HZ5 := Lib.hid (below_run HY5.out hb)
  clear hb
  go_upto_region 2 with fail
  have hal := (Below.refl w12.heap.size w12).alloc (Nat.le_refl _) (.cells #[.int .u64 9, .int .i64 0, .int .i64 3, .slice (some ⟨k0, 0, none⟩) 1 1, .slice none 0 0, .slice none 0 0, .int .u64 5, .int .i64 4, .int .i64 240, .string ⟨#[]⟩, .int .i64 0, .string ⟨#[0, 1]⟩, .int .i64 0, .int .i64 1, .int .u64 9, .int .i64 0, .int .i64 3, .slice (some ⟨k1, 0, none⟩) 1 1, .slice (some ⟨w2.heap.size, 0, none⟩) 2 2, .slice none 0 0, .int .u64 5, .int .i64 4, .int .i64 240, .string ⟨#[]⟩, .int .i64 0, .string ⟨#[0, 1]⟩, .int .i64 0, .int .i64 3, .int .u64 9, .int .i64 0, .int .i64 3, .slice (some ⟨k2, 0, none⟩) 1 1, .slice (some ⟨w4.heap.size, 0, none⟩) 3 3, .slice none 0 0, .int .u64 5, .int .i64 4, .int .i64 240, .string ⟨#[]⟩, .int .i64 2, .string ⟨#[]⟩, .int .i64 0, .int .i64 3, .int .u64 9, .int .i64 0, .int .i64 3, .slice (some ⟨k3, 0, none⟩) 1 1, .slice (some ⟨w6.heap.size, 0, none⟩) 1 1, .slice none 0 0, .int .u64 5, .int .i64 4, .int .i64 240, .string ⟨#[]⟩, .int .i64 0, .string ⟨#[0, 1]⟩, .int .i64 0, .int .i64 2, .int .u64 9, .int .i64 0, .int .i64 3, .slice (some ⟨k4, 0, none⟩) 1 1, .slice none 0 0, .slice none 0 0, .int .u64 5, .int .i64 5, .int .i64 240, .string ⟨#[1, 254]⟩, .int .i64 1, .string ⟨#[]⟩, .int .i64 3, .int .i64 1, .int .u64 9, .int .i64 0, .int .i64 3, .slice (some ⟨k5, 0, none⟩) 1 1, .slice none 0 0, .slice none 0 0, .int .u64 6, .int .i64 4, .int .i64 240, .string ⟨#[]⟩, .int .i64 2, .string ⟨#[]⟩, .int .i64 0, .int .i64 3] 79)
  have hR : RowAt (w12.alloc (.cells #[.int .u64 9, .int .i64 0, .int .i64 3, .slice (some ⟨k0, 0, none⟩) 1 1, .slice none 0 0, .slice none 0 0, .int .u64 5, .int .i64 4, .int .i64 240, .string ⟨#[]⟩, .int .i64 0, .string ⟨#[0, 1]⟩, .int .i64 0, .int .i64 1, .int .u64 9, .int .i64 0, .int .i64 3, .slice (some ⟨k1, 0, none⟩) 1 1, .slice (some ⟨w2.heap.size, 0, none⟩) 2 2, .slice none 0 0, .int .u64 5, .int .i64 4, .int .i64 240, .string ⟨#[]⟩, .int .i64 0, .string ⟨#[0, 1]⟩, .int .i64 0, .int .i64 3, .int .u64 9, .int .i64 0, .int .i64 3, .slice (some ⟨k2, 0, none⟩) 1 1, .slice (some ⟨w4.heap.size, 0, none⟩) 3 3, .slice none 0 0, .int .u64 5, .int .i64 4, .int .i64 240, .string ⟨#[]⟩, .int .i64 2, .string ⟨#[]⟩, .int .i64 0, .int .i64 3, .int .u64 9, .int .i64 0, .int .i64 3, .slice (some ⟨k3, 0, none⟩) 1 1, .slice (some ⟨w6.heap.size, 0, none⟩) 1 1, .slice none 0 0, .int .u64 5, .int .i64 4, .int .i64 240, .string ⟨#[]⟩, .int .i64 0, .string ⟨#[0, 1]⟩, .int .i64 0, .int .i64 2, .int .u64 9, .int .i64 0, .int .i64 3, .slice (some ⟨k4, 0, none⟩) 1 1, .slice none 0 0, .slice none 0 0, .int .u64 5, .int .i64 5, .int .i64 240, .string ⟨#[1, 254]⟩, .int .i64 1, .string ⟨#[]⟩, .int .i64 3, .int .i64 1, .int .u64 9, .int .i64 0, .int .i64 3, .slice (some ⟨k5, 0, none⟩) 1 1, .slice none 0 0, .slice none 0 0, .int .u64 6, .int .i64 4, .int .i64 240, .string ⟨#[]⟩, .int .i64 2, .string ⟨#[]⟩, .int .i64 0, .int .i64 3] 79)) w12.heap.size 79 #[.int .u64 9, .int .i64 0, .int .i64 3, .slice (some ⟨k0, 0, none⟩) 1 1, .slice none 0 0, .slice none 0 0, .int .u64 5, .int .i64 4, .int .i64 240, .string ⟨#[]⟩, .int .i64 0, .string ⟨#[0, 1]⟩, .int .i64 0, .int .i64 1, .int .u64 9, .int .i64 0, .int .i64 3, .slice (some ⟨k1, 0, none⟩) 1 1, .slice (some ⟨w2.heap.size, 0, none⟩) 2 2, .slice none 0 0, .int .u64 5, .int .i64 4, .int .i64 240, .string ⟨#[]⟩, .int .i64 0, .string ⟨#[0, 1]⟩, .int .i64 0, .int .i64 3, .int .u64 9, .int .i64 0, .int .i64 3, .slice (some ⟨k2, 0, none⟩) 1 1, .slice (some ⟨w4.heap.size, 0, none⟩) 3 3, .slice none 0 0, .int .u64 5, .int .i64 4, .int .i64 240, .string ⟨#[]⟩, .int .i64 2, .string ⟨#[]⟩, .int .i64 0, .int .i64 3, .int .u64 9, .int .i64 0, .int .i64 3, .slice (some ⟨k3, 0, none⟩) 1 1, .slice (some ⟨w6.heap.size, 0, none⟩) 1 1, .slice none 0 0, .int .u64 5, .int .i64 4, .int .i64 240, .string ⟨#[]⟩, .int .i64 0, .string ⟨#[0, 1]⟩, .int .i64 0, .int .i64 2, .int .u64 9, .int .i64 0, .int .i64 3, .slice (some ⟨k4, 0, none⟩) 1 1, .slice none 0 0, .slice none 0 0, .int .u64 5, .int .i64 5, .int .i64 240, .string ⟨#[1, 254]⟩, .int .i64 1, .string ⟨#[]⟩, .int .i64 3, .int .i64 1, .int .u64 9, .int .i64 0, .int .i64 3, .slice (some ⟨k5, 0, none⟩) 1 1, .slice none 0 0, .slice none 0 0, .int .u64 6, .int .i64 4, .int .i64 240, .string ⟨#[]⟩, .int .i64 2, .string ⟨#[]⟩, .int .i64 0, .int .i64 3] := RowAt.new _ _ _
  have D0 := D0.out.below hal
  have D1 := D1.out.below hal
  have I1 := I1.out.run hal
  have D2 := D2.out.below hal
  have I2 := I2.out.run hal
  have D3 := D3.out.below hal
  have I3 := I3.out.run hal
  have D4 := D4.out.below hal
  have D5 := D5.out.below hal
  have hB := below_run HZ5.out hal
  generalize w12.alloc (.cells #[.int .u64 9, .int .i64 0, .int .i64 3, .slice (some ⟨k0, 0, none⟩) 1 1, .slice none 0 0, .slice none 0 0, .int .u64 5, .int .i64 4, .int .i64 240, .string ⟨#[]⟩, .int .i64 0, .string ⟨#[0, 1]⟩, .int .i64 0, .int .i64 1, .int .u64 9, .int .i64 0, .int .i64 3, .slice (some ⟨k1, 0, none⟩) 1 1, .slice (some ⟨w2.heap.size, 0, none⟩) 2 2, .slice none 0 0, .int .u64 5, .int .i64 4, .int .i64 240, .string ⟨#[]⟩, .int .i64 0, .string ⟨#[0, 1]⟩, .int .i64 0, .int .i64 3, .int .u64 9, .int .i64 0, .int .i64 3, .slice (some ⟨k2, 0, none⟩) 1 1, .slice (some ⟨w4.heap.size, 0, none⟩) 3 3, .slice none 0 0, .int .u64 5, .int .i64 4, .int .i64 240, .string ⟨#[]⟩, .int .i64 2, .string ⟨#[]⟩, .int .i64 0, .int .i64 3, .int .u64 9, .int .i64 0, .int .i64 3, .slice (some ⟨k3, 0, none⟩) 1 1, .slice (some ⟨w6.heap.size, 0, none⟩) 1 1, .slice none 0 0, .int .u64 5, .int .i64 4, .int .i64 240, .string ⟨#[]⟩, .int .i64 0, .string ⟨#[0, 1]⟩, .int .i64 0, .int .i64 2, .int .u64 9, .int .i64 0, .int .i64 3, .slice (some ⟨k4, 0, none⟩) 1 1, .slice none 0 0, .slice none 0 0, .int .u64 5, .int .i64 5, .int .i64 240, .string ⟨#[1, 254]⟩, .int .i64 1, .string ⟨#[]⟩, .int .i64 3, .int .i64 1, .int .u64 9, .int .i64 0, .int .i64 3, .slice (some ⟨k5, 0, none⟩) 1 1, .slice none 0 0, .slice none 0 0, .int .u64 6, .int .i64 4, .int .i64 240, .string ⟨#[]⟩, .int .i64 2, .string ⟨#[]⟩, .int .i64 0, .int .i64 3] 79) = W at hR hB D0 D1 D2 D3 D4 D5 I1 I2 I3 ⊢
  generalize w12.heap.size = B at hR ⊢
  generalize w2.heap.size = q1 at hR I1 ⊢
  generalize w4.heap.size = q2 at hR I2 ⊢
  generalize w6.heap.size = q3 at hR I3 ⊢
  have HR := Lib.hid hR
  have HB := Lib.hid hB
  have C0 := Lib.hid (fun W' (hb : Below W.heap.size W W') => aw_ask ⟨[dev5], [], []⟩ 5 4 240 ⟨#[]⟩ ⟨0, ⟨#[0, 1]⟩, 0, 1⟩ aw0_e aw0_a (some ⟨k0, 0, none⟩) none none 1 1 0 0 0 0 W' ⟨D0.below hb, fun a n c e => (by cases e; exact Nat.le_refl _), .inl ⟨rfl, _, _, rfl⟩, .inl ⟨rfl, _, _, rfl⟩⟩)
  have C1 := Lib.hid (fun W' (hb : Below W.heap.size W W') => aw_ask ⟨[dev5], [1, 2], []⟩ 5 4 240 ⟨#[]⟩ ⟨0, ⟨#[0, 1]⟩, 0, 3⟩ aw1_e aw1_a (some ⟨k1, 0, none⟩) (some ⟨q1, 0, none⟩) none 1 1 2 2 0 0 W' ⟨D1.below hb, fun a n c e => (by cases e; exact Nat.le_refl _), I1.run hb, .inl ⟨rfl, _, _, rfl⟩⟩)
  have C2 := Lib.hid (fun W' (hb : Below W.heap.size W W') => aw_ask ⟨[dev5], [1, 1, 1], []⟩ 5 4 240 ⟨#[]⟩ ⟨2, ⟨#[]⟩, 0, 3⟩ aw2_e aw2_a (some ⟨k2, 0, none⟩) (some ⟨q2, 0, none⟩) none 1 1 3 3 0 0 W' ⟨D2.below hb, fun a n c e => (by cases e; exact Nat.le_refl _), I2.run hb, .inl ⟨rfl, _, _, rfl⟩⟩)
  have C3 := Lib.hid (fun W' (hb : Below W.heap.size W W') => aw_ask ⟨[dev5], [4], []⟩ 5 4 240 ⟨#[]⟩ ⟨0, ⟨#[0, 1]⟩, 0, 2⟩ aw3_e aw3_a (some ⟨k3, 0, none⟩) (some ⟨q3, 0, none⟩) none 1 1 1 1 0 0 W' ⟨D3.below hb, fun a n c e => (by cases e; exact Nat.le_refl _), I3.run hb, .inl ⟨rfl, _, _, rfl⟩⟩)
  have C4 := Lib.hid (fun W' (hb : Below W.heap.size W W') => aw_ask ⟨[dev5], [], []⟩ 5 5 240 ⟨#[1, 254]⟩ ⟨1, ⟨#[]⟩, 3, 1⟩ aw4_e aw4_a (some ⟨k4, 0, none⟩) none none 1 1 0 0 0 0 W' ⟨D4.below hb, fun a n c e => (by cases e; exact Nat.le_refl _), .inl ⟨rfl, _, _, rfl⟩, .inl ⟨rfl, _, _, rfl⟩⟩)
  have C5 := Lib.hid (fun W' (hb : Below W.heap.size W W') => aw_ask ⟨[dev5], [], []⟩ 6 4 240 ⟨#[]⟩ ⟨2, ⟨#[]⟩, 0, 3⟩ aw5_e aw5_a (some ⟨k5, 0, none⟩) none none 1 1 0 0 0 0 W' ⟨D5.below hb, fun a n c e => (by cases e; exact Nat.le_refl _), .inl ⟨rfl, _, _, rfl⟩, .inl ⟨rfl, _, _, rfl⟩⟩)
  clear hR hB D0 D1 D2 D3 D4 D5 I1 I2 I3 hal HX1 HX2 HX3 HY0 HY1 HY2 HY3 HY4 HY5 HZ0 HZ1 HZ2 HZ3 HZ5 CF CG HB0
  go_loopw [36] (fun i wr => ∃ k : Nat, k ≤ 6 ∧ i = .int .i64 k ∧ Below W.heap.size W wr) (fun i _ => 6 - (intOf i).toNat)
  case atStart => exact ⟨0, Nat.zero_le _, rfl, Below.refl _ _⟩
  case round =>
    obtain ⟨k, hk, rfl, hb⟩ := hrel
    have hr := HR.out.run hb
    obtain ⟨x1, x2, x3, x4, x5, x6⟩ := row_facts hr
    have HBR := Lib.hid hb
    clear hr hb
    by_cases h6 : k = 6
    · subst h6
      go_wp2
      go_ret
      exact ⟨rfl, below_run HB.out HBR.out⟩
    · have hways : k = 0 ∨ k = 1 ∨ k = 2 ∨ k = 3 ∨ k = 4 ∨ k = 5 := by omega
      clear hk h6
      rcases hways with rfl | rfl | rfl | rfl | rfl | rfl
      · go_wp2_with fail
        refine (C0.out _ (HBR.out.alloc HBR.out.size _)).mono ?_
        rintro e w20 ⟨x', da', fa', la', dn', dc', fn', fc', ln', lc', rfl, hb2⟩
        have h2 := RowAt.run (RowAt.new wr 79 #[.int .u64 9, .int .i64 0, .int .i64 3, .slice (some ⟨k0, 0, none⟩) 1 1, .slice none 0 0, .slice none 0 0, .int .u64 5, .int .i64 4, .int .i64 240, .string ⟨#[]⟩, .int .i64 0, .string ⟨#[0, 1]⟩, .int .i64 0, .int .i64 1]) hb2
        obtain ⟨y1, y2, y3, y4, y5, y6⟩ := row_facts h2
        have HB3 := Lib.hid (below_run (HBR.out.alloc HBR.out.size _) hb2)
        have h3 := ((h2.alloc (.cells #[.int .u64 x'.id, .int .i64 x'.seq, .int .i64 x'.tries] 24)).alloc (.cells #[.slice da' dn' dc', .slice fa' fn' fc', .slice la' ln' lc'] 29)).alloc (.cells #[.int .i64 0, .string ⟨#[0, 1]⟩, .int .i64 0, .int .i64 1] 37)
        have e10 := cell_fact h3 10
        have e11 := cell_fact h3 11
        have e12 := cell_fact h3 12
        have e13 := cell_fact h3 13
        simp only [List.getElem?_toArray] at e10 e11 e12 e13
        clear h2 h3 hb2 x1 x2 x3 x4 x5 x6 C0 C1 C2 C3 C4 C5
        go_wp2
        go_roundw
        case rel => exact ⟨1, by omega, by first | rfl | go_num, by have := HB3.out; have hz := this.size; (repeat' (first | (with_reducible exact Below.refl _ _) | (with_reducible assumption) | (with_reducible refine below_run ?_ (by assumption)) | (with_reducible refine below_of_upd ?_ (by assumption) ?_) | (with_reducible refine below_drewN ?_ _) | (with_reducible refine Below.drew ?_) | (with_reducible refine below_seven ?_ ?_) | (with_reducible refine below_six ?_ ?_) | (with_reducible refine below_one ?_ ?_) | (with_reducible refine Below.alloc ?_ ?_ _) | (with_reducible refine below_after ?_ ?_ (by assumption)) | (show _ ≤ _; first | omega | (simp; done) | (simp; omega))))⟩
        case measure => simp [intOf]
      · go_wp2_with fail
        refine (C1.out _ (HBR.out.alloc HBR.out.size _)).mono ?_
        rintro e w20 ⟨x', da', fa', la', dn', dc', fn', fc', ln', lc', rfl, hb2⟩
        have h2 := RowAt.run (RowAt.new wr 79 #[.int .u64 9, .int .i64 0, .int .i64 3, .slice (some ⟨k1, 0, none⟩) 1 1, .slice (some ⟨q1, 0, none⟩) 2 2, .slice none 0 0, .int .u64 5, .int .i64 4, .int .i64 240, .string ⟨#[]⟩, .int .i64 0, .string ⟨#[0, 1]⟩, .int .i64 0, .int .i64 3]) hb2
        obtain ⟨y1, y2, y3, y4, y5, y6⟩ := row_facts h2
        have HB3 := Lib.hid (below_run (HBR.out.alloc HBR.out.size _) hb2)
        have h3 := ((h2.alloc (.cells #[.int .u64 x'.id, .int .i64 x'.seq, .int .i64 x'.tries] 24)).alloc (.cells #[.slice da' dn' dc', .slice fa' fn' fc', .slice la' ln' lc'] 29)).alloc (.cells #[.int .i64 0, .string ⟨#[0, 1]⟩, .int .i64 0, .int .i64 3] 37)
        have e10 := cell_fact h3 10
        have e11 := cell_fact h3 11
        have e12 := cell_fact h3 12
        have e13 := cell_fact h3 13
        simp only [List.getElem?_toArray] at e10 e11 e12 e13
        clear h2 h3 hb2 x1 x2 x3 x4 x5 x6 C0 C1 C2 C3 C4 C5
        go_wp2
        go_roundw
        case rel => exact ⟨2, by omega, by first | rfl | go_num, by have := HB3.out; have hz := this.size; (repeat' (first | (with_reducible exact Below.refl _ _) | (with_reducible assumption) | (with_reducible refine below_run ?_ (by assumption)) | (with_reducible refine below_of_upd ?_ (by assumption) ?_) | (with_reducible refine below_drewN ?_ _) | (with_reducible refine Below.drew ?_) | (with_reducible refine below_seven ?_ ?_) | (with_reducible refine below_six ?_ ?_) | (with_reducible refine below_one ?_ ?_) | (with_reducible refine Below.alloc ?_ ?_ _) | (with_reducible refine below_after ?_ ?_ (by assumption)) | (show _ ≤ _; first | omega | (simp; done) | (simp; omega))))⟩
        case measure => simp [intOf]
      · go_wp2_with fail
        refine (C2.out _ (HBR.out.alloc HBR.out.size _)).mono ?_
        rintro e w20 ⟨x', da', fa', la', dn', dc', fn', fc', ln', lc', rfl, hb2⟩
        have h2 := RowAt.run (RowAt.new wr 79 #[.int .u64 9, .int .i64 0, .int .i64 3, .slice (some ⟨k2, 0, none⟩) 1 1, .slice (some ⟨q2, 0, none⟩) 3 3, .slice none 0 0, .int .u64 5, .int .i64 4, .int .i64 240, .string ⟨#[]⟩, .int .i64 2, .string ⟨#[]⟩, .int .i64 0, .int .i64 3]) hb2
        obtain ⟨y1, y2, y3, y4, y5, y6⟩ := row_facts h2
        have HB3 := Lib.hid (below_run (HBR.out.alloc HBR.out.size _) hb2)
        have h3 := ((h2.alloc (.cells #[.int .u64 x'.id, .int .i64 x'.seq, .int .i64 x'.tries] 24)).alloc (.cells #[.slice da' dn' dc', .slice fa' fn' fc', .slice la' ln' lc'] 29)).alloc (.cells #[.int .i64 2, .string ⟨#[]⟩, .int .i64 0, .int .i64 3] 37)
        have e10 := cell_fact h3 10
        have e11 := cell_fact h3 11
        have e12 := cell_fact h3 12
        have e13 := cell_fact h3 13
        simp only [List.getElem?_toArray] at e10 e11 e12 e13
        clear h2 h3 hb2 x1 x2 x3 x4 x5 x6 C0 C1 C2 C3 C4 C5
        go_wp2
        go_roundw
        case rel => exact ⟨3, by omega, by first | rfl | go_num, by have := HB3.out; have hz := this.size; (repeat' (first | (with_reducible exact Below.refl _ _) | (with_reducible assumption) | (with_reducible refine below_run ?_ (by assumption)) | (with_reducible refine below_of_upd ?_ (by assumption) ?_) | (with_reducible refine below_drewN ?_ _) | (with_reducible refine Below.drew ?_) | (with_reducible refine below_seven ?_ ?_) | (with_reducible refine below_six ?_ ?_) | (with_reducible refine below_one ?_ ?_) | (with_reducible refine Below.alloc ?_ ?_ _) | (with_reducible refine below_after ?_ ?_ (by assumption)) | (show _ ≤ _; first | omega | (simp; done) | (simp; omega))))⟩
        case measure => simp [intOf]
      · go_wp2_with fail
        refine (C3.out _ (HBR.out.alloc HBR.out.size _)).mono ?_
        rintro e w20 ⟨x', da', fa', la', dn', dc', fn', fc', ln', lc', rfl, hb2⟩
        have h2 := RowAt.run (RowAt.new wr 79 #[.int .u64 9, .int .i64 0, .int .i64 3, .slice (some ⟨k3, 0, none⟩) 1 1, .slice (some ⟨q3, 0, none⟩) 1 1, .slice none 0 0, .int .u64 5, .int .i64 4, .int .i64 240, .string ⟨#[]⟩, .int .i64 0, .string ⟨#[0, 1]⟩, .int .i64 0, .int .i64 2]) hb2
        obtain ⟨y1, y2, y3, y4, y5, y6⟩ := row_facts h2
        have HB3 := Lib.hid (below_run (HBR.out.alloc HBR.out.size _) hb2)
        have h3 := ((h2.alloc (.cells #[.int .u64 x'.id, .int .i64 x'.seq, .int .i64 x'.tries] 24)).alloc (.cells #[.slice da' dn' dc', .slice fa' fn' fc', .slice la' ln' lc'] 29)).alloc (.cells #[.int .i64 0, .string ⟨#[0, 1]⟩, .int .i64 0, .int .i64 2] 37)
        have e10 := cell_fact h3 10
        have e11 := cell_fact h3 11
        have e12 := cell_fact h3 12
        have e13 := cell_fact h3 13
        simp only [List.getElem?_toArray] at e10 e11 e12 e13
        clear h2 h3 hb2 x1 x2 x3 x4 x5 x6 C0 C1 C2 C3 C4 C5
        go_wp2
        go_roundw
        case rel => exact ⟨4, by omega, by first | rfl | go_num, by have := HB3.out; have hz := this.size; (repeat' (first | (with_reducible exact Below.refl _ _) | (with_reducible assumption) | (with_reducible refine below_run ?_ (by assumption)) | (with_reducible refine below_of_upd ?_ (by assumption) ?_) | (with_reducible refine below_drewN ?_ _) | (with_reducible refine Below.drew ?_) | (with_reducible refine below_seven ?_ ?_) | (with_reducible refine below_six ?_ ?_) | (with_reducible refine below_one ?_ ?_) | (with_reducible refine Below.alloc ?_ ?_ _) | (with_reducible refine below_after ?_ ?_ (by assumption)) | (show _ ≤ _; first | omega | (simp; done) | (simp; omega))))⟩
        case measure => simp [intOf]
      · go_wp2_with fail
        refine (C4.out _ (HBR.out.alloc HBR.out.size _)).mono ?_
        rintro e w20 ⟨x', da', fa', la', dn', dc', fn', fc', ln', lc', rfl, hb2⟩
        have h2 := RowAt.run (RowAt.new wr 79 #[.int .u64 9, .int .i64 0, .int .i64 3, .slice (some ⟨k4, 0, none⟩) 1 1, .slice none 0 0, .slice none 0 0, .int .u64 5, .int .i64 5, .int .i64 240, .string ⟨#[1, 254]⟩, .int .i64 1, .string ⟨#[]⟩, .int .i64 3, .int .i64 1]) hb2
        obtain ⟨y1, y2, y3, y4, y5, y6⟩ := row_facts h2
        have HB3 := Lib.hid (below_run (HBR.out.alloc HBR.out.size _) hb2)
        have h3 := ((h2.alloc (.cells #[.int .u64 x'.id, .int .i64 x'.seq, .int .i64 x'.tries] 24)).alloc (.cells #[.slice da' dn' dc', .slice fa' fn' fc', .slice la' ln' lc'] 29)).alloc (.cells #[.int .i64 1, .string ⟨#[]⟩, .int .i64 3, .int .i64 1] 37)
        have e10 := cell_fact h3 10
        have e11 := cell_fact h3 11
        have e12 := cell_fact h3 12
        have e13 := cell_fact h3 13
        simp only [List.getElem?_toArray] at e10 e11 e12 e13
        clear h2 h3 hb2 x1 x2 x3 x4 x5 x6 C0 C1 C2 C3 C4 C5
        go_wp2
        go_roundw
        case rel => exact ⟨5, by omega, by first | rfl | go_num, by have := HB3.out; have hz := this.size; (repeat' (first | (with_reducible exact Below.refl _ _) | (with_reducible assumption) | (with_reducible refine below_run ?_ (by assumption)) | (with_reducible refine below_of_upd ?_ (by assumption) ?_) | (with_reducible refine below_drewN ?_ _) | (with_reducible refine Below.drew ?_) | (with_reducible refine below_seven ?_ ?_) | (with_reducible refine below_six ?_ ?_) | (with_reducible refine below_one ?_ ?_) | (with_reducible refine Below.alloc ?_ ?_ _) | (with_reducible refine below_after ?_ ?_ (by assumption)) | (show _ ≤ _; first | omega | (simp; done) | (simp; omega))))⟩
        case measure => simp [intOf]
      · go_wp2_with fail
        refine (C5.out _ (HBR.out.alloc HBR.out.size _)).mono ?_
        rintro e w20 ⟨x', da', fa', la', dn', dc', fn', fc', ln', lc', rfl, hb2⟩
        have h2 := RowAt.run (RowAt.new wr 79 #[.int .u64 9, .int .i64 0, .int .i64 3, .slice (some ⟨k5, 0, none⟩) 1 1, .slice none 0 0, .slice none 0 0, .int .u64 6, .int .i64 4, .int .i64 240, .string ⟨#[]⟩, .int .i64 2, .string ⟨#[]⟩, .int .i64 0, .int .i64 3]) hb2
        obtain ⟨y1, y2, y3, y4, y5, y6⟩ := row_facts h2
        have HB3 := Lib.hid (below_run (HBR.out.alloc HBR.out.size _) hb2)
        have h3 := ((h2.alloc (.cells #[.int .u64 x'.id, .int .i64 x'.seq, .int .i64 x'.tries] 24)).alloc (.cells #[.slice da' dn' dc', .slice fa' fn' fc', .slice la' ln' lc'] 29)).alloc (.cells #[.int .i64 2, .string ⟨#[]⟩, .int .i64 0, .int .i64 3] 37)
        have e10 := cell_fact h3 10
        have e11 := cell_fact h3 11
        have e12 := cell_fact h3 12
        have e13 := cell_fact h3 13
        simp only [List.getElem?_toArray] at e10 e11 e12 e13
        clear h2 h3 hb2 x1 x2 x3 x4 x5 x6 C0 C1 C2 C3 C4 C5
        go_wp2
        go_roundw
        case rel => exact ⟨6, by omega, by first | rfl | go_num, by have := HB3.out; have hz := this.size; (repeat' (first | (with_reducible exact Below.refl _ _) | (with_reducible assumption) | (with_reducible refine below_run ?_ (by assumption)) | (with_reducible refine below_of_upd ?_ (by assumption) ?_) | (with_reducible refine below_drewN ?_ _) | (with_reducible refine Below.drew ?_) | (with_reducible refine below_seven ?_ ?_) | (with_reducible refine below_six ?_ ?_) | (with_reducible refine below_one ?_ ?_) | (with_reducible refine Below.alloc ?_ ?_ _) | (with_reducible refine below_after ?_ ?_ (by assumption)) | (show _ ≤ _; first | omega | (simp; done) | (simp; omega))))⟩
        case measure => simp [intOf]
end Go.Proofs.YtpkhcehddfmhpaaGreat
