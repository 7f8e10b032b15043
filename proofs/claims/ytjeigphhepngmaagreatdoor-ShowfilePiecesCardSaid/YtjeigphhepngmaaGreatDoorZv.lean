/- -/
import Derived.Test.YtjeigphhepngmaaGreatDoorAd
import Derived.Test.YtjeigphhepngmaaGreatDoorAs
namespace Go.Proofs.YtjeigphhepngmaaGreatDoor
open Go.RowKit
open Go.Lib (hid)
set_option maxHeartbeats 8000000
set_option linter.unusedSimpArgs false
set_option linter.unusedVariables false
set_option maxRecDepth 100000
theorem zh1 (B b : Nat) (l : List UInt8) (v : Value) (c : List Pt) (w0 : World) (w : World) (h : Wtr B b l w) (h0 : Below w0.heap.size w0 w) (hB0 : w0.heap.size ≤ B) (hv : ListAt 2 ptA w0 v c) (hi : ∀ p ∈ c, Ints64 [p.1, p.2]) (hlen : l.length + (ptsB c).length ≤ 140737488355328) (hB : B ≤ w.heap.size) :
  Calls Tryz.prog 88 #[.pointer (some ⟨b, 0, none⟩), v] w fun e w' => e = .returned (.tuple #[]) ∧ Wtr B b (l ++ (ptsB c)) w' ∧ KeptW B b w w' := by
 have hmf : ∀ (fn : Fn) (first cap : Array Value) (w : World), (Instr.makeFunc fn first cap).run Tryz.prog w = .ok (.func fn first cap) w := fun _ _ _ _ => rfl
 have HV := hid hv
 obtain ⟨va, vc, rfl⟩ := hv.shape
 clear hv
 have HL := hid (show l.length + (intB c.length ++ c.flatMap ptB).length ≤ 140737488355328 from by
  (try simp only [ptsB, List.length_append] at hlen ⊢)
  omega)
 have hbw := h.lt.2
 have hw0 : Wtr B b l (w.alloc (.cells #[.pointer (some ⟨b, 0, none⟩)] 131)) := h.alloc _
 have r0 : RowAt (w.alloc (.cells #[.pointer (some ⟨b, 0, none⟩)] 131)) w.heap.size 131 #[.pointer (some ⟨b, 0, none⟩)] := RowAt.new _ _ _
 have hk0 : KeptW B b w (w.alloc (.cells #[.pointer (some ⟨b, 0, none⟩)] 131)) := (KeptW.refl _ _ _).alloc hB _
 have S0 := hid (And.intro hw0 (And.intro r0 hk0))
 clear hw0 hk0 h hlen r0
 obtain ⟨x01, x02, x03, x04, x05, x06⟩ := zaa S0.out.2.1
 go_enter Tryz.func88, Tryz.ntmps88
 go_wp2_with fail
 clear x01 x02 x03 x04 x05 x06
 refine (zpq B b 201 (.pointer (some ⟨w.heap.size, 0, none⟩)) ptB _ _ c w0 _ S0.out.1 (h0.trans (S0.out.2.2.1.mono hB0)) hB0 HV.out zso (fun d hd pre W hW hK hln => zmb B b w.heap.size pre d W hW (hK.row S0.out.2.1 (S0.out.1.far S0.out.2.1 (by decide)) (by decide)) (hi d hd) hln (Nat.le_trans (Nat.le_trans hB S0.out.2.2.1.size) hK.1.size)) (by have := HL.out; (try simp only [List.length_append] at this ⊢); omega) (Nat.le_trans hB S0.out.2.2.1.size)).mono ?_
 rintro e w1 ⟨rfl, hw, hk⟩
 have S1 := hid (And.intro hw (And.intro (hk.row S0.out.2.1 (S0.out.1.far S0.out.2.1 (by decide)) (by decide)) (S0.out.2.2.trans hk)))
 clear hw hk
 go_wp2
 (first | go_end0 | refine bodyPost_ret (results_none rfl _ _ _) rfl ?_)
 exact ⟨rfl, by have := S1.out.1; simpa [ptsB, List.append_assoc] using this, S1.out.2.2⟩
theorem zvx (B b p : Nat) (l : List UInt8) (d : SlotD) (w : World) (h : Wtr B b l w) (hp : AtP w p b) (hn : d.name.size ≤ 9223372036854775807) (hi : Ints64 [d.lo, d.hi]) (hlen : l.length + (slotB d).length ≤ 140737488355328) (hB : B ≤ w.heap.size) :
  Calls Tryz.prog 205 #[.agg #[.string d.name, .int .i64 d.lo, .int .i64 d.hi], .pointer (some ⟨p, 0, none⟩)] w fun e w' => e = .returned (.tuple #[]) ∧ Wtr B b (l ++ (slotB d)) w' ∧ KeptW B b w w' := by
 have HL := hid (show l.length + (textB d.name).length + (intsB [d.lo, d.hi]).length ≤ 140737488355328 from by
  (try simp only [slotB, List.length_append] at hlen ⊢)
  omega)
 have hbw := h.lt.2
 have hw0 : Wtr B b l (w.alloc (.cells #[.string d.name, .int .i64 d.lo, .int .i64 d.hi] 273)) := h.alloc _
 have r0 : RowAt (w.alloc (.cells #[.string d.name, .int .i64 d.lo, .int .i64 d.hi] 273)) w.heap.size 273 #[.string d.name, .int .i64 d.lo, .int .i64 d.hi] := RowAt.new _ _ _
 have r1 : RowAt (w.alloc (.cells #[.string d.name, .int .i64 d.lo, .int .i64 d.hi] 273)) p 131 #[.pointer (some ⟨b, 0, none⟩)] := RowAt.alloc (hp) _
 have hk0 : KeptW B b w (w.alloc (.cells #[.string d.name, .int .i64 d.lo, .int .i64 d.hi] 273)) := (KeptW.refl _ _ _).alloc hB _
 have S0 := hid (And.intro hw0 (And.intro r0 (And.intro r1 hk0)))
 clear hw0 hk0 h hlen r0 r1 hp
 obtain ⟨x01, x02, x03, x04, x05, x06⟩ := zaa S0.out.2.1
 obtain ⟨x11, x12, x13, x14, x15, x16⟩ := zaa S0.out.2.2.1
 go_enter Tryz.func205, Tryz.ntmps205
 go_wp2_with fail
 clear x01 x02 x03 x04 x05 x06 x11 x12 x13 x14 x15 x16
 refine (zce B b _ d.name _ S0.out.1 hn (by have := HL.out; (try simp only [List.length_append] at this ⊢); omega) (Nat.le_trans hB S0.out.2.2.2.1.size)).mono ?_
 rintro e w1 ⟨rfl, hw, hk⟩
 have S1 := hid (And.intro hw (And.intro (hk.row S0.out.2.1 (S0.out.1.far S0.out.2.1 (by decide)) (by decide)) (And.intro (hk.row S0.out.2.2.1 (S0.out.1.far S0.out.2.2.1 (by decide)) (by decide)) (S0.out.2.2.2.trans hk))))
 clear hw hk
 obtain ⟨x01, x02, x03, x04, x05, x06⟩ := zaa S1.out.2.1
 obtain ⟨x11, x12, x13, x14, x15, x16⟩ := zaa S1.out.2.2.1
 go_wp2_with fail
 clear x01 x02 x03 x04 x05 x06 x11 x12 x13 x14 x15 x16
 refine (zcr B b _ d.lo d.hi _ _ (by first | (with_reducible rfl) | (simp; done)) S1.out.1 hi (by have := HL.out; (try simp only [List.length_append] at this ⊢); omega) (Nat.le_trans hB S1.out.2.2.2.1.size)).mono ?_
 rintro e w2 ⟨rfl, hw, hk⟩
 have S2 := hid (And.intro hw (And.intro (hk.row S1.out.2.1 (S1.out.1.far S1.out.2.1 (by decide)) (by decide)) (And.intro (hk.row S1.out.2.2.1 (S1.out.1.far S1.out.2.2.1 (by decide)) (by decide)) (S1.out.2.2.2.trans hk))))
 clear hw hk
 go_wp2
 (first | go_end0 | refine bodyPost_ret (results_none rfl _ _ _) rfl ?_)
 exact ⟨rfl, by have := S2.out.1; simpa [slotB, List.append_assoc] using this, S2.out.2.2.2⟩
theorem zq5 : ∀ args W, (callFunc 205 args).run Tryz.prog W = .ok (.enter 205 args) W := enters_of Tryz.func205 (by kernel_rfl) rfl
theorem zmj (B b p : Nat) (l : List UInt8) (d : FeatD) (v : Value) (w0 : World) (w : World) (h : Wtr B b l w) (hp : AtP w p b) (h0 : Below w0.heap.size w0 w) (hB0 : w0.heap.size ≤ B) (hv : ListAt 3 slotA w0 v d.wheel) (hd : Feat64 d) (hlen : l.length + (featB d).length ≤ 140737488355328) (hB : B ≤ w.heap.size) :
  Calls Tryz.prog 203 #[.agg #[.int .i64 d.attr, .int .i64 d.bits, .int .i64 d.coarse, .int .i64 d.fine, .int .i64 d.curve, .int .i64 d.home, .int .i64 d.low, .int .i64 d.high, .bool d.snap, v], .pointer (some ⟨p, 0, none⟩)] w fun e w' => e = .returned (.tuple #[]) ∧ Wtr B b (l ++ (featB d)) w' ∧ KeptW B b w w' := by
 have hmf : ∀ (fn : Fn) (first cap : Array Value) (w : World), (Instr.makeFunc fn first cap).run Tryz.prog w = .ok (.func fn first cap) w := fun _ _ _ _ => rfl
 have HV := hid hv
 obtain ⟨va, vc, rfl⟩ := hv.shape
 clear hv
 have HL := hid (show l.length + (intsB [d.attr, d.bits, d.coarse, d.fine, d.curve, d.home, d.low, d.high]).length + (intB (truthI d.snap)).length + (intB d.wheel.length ++ d.wheel.flatMap slotB).length ≤ 140737488355328 from by
  (try simp only [featB, featI, List.length_append] at hlen ⊢)
  omega)
 have hbw := h.lt.2
 have hw0 : Wtr B b l (w.alloc (.cells #[.int .i64 d.attr, .int .i64 d.bits, .int .i64 d.coarse, .int .i64 d.fine, .int .i64 d.curve, .int .i64 d.home, .int .i64 d.low, .int .i64 d.high, .bool d.snap, .slice va d.wheel.length vc] 161)) := h.alloc _
 have r0 : RowAt (w.alloc (.cells #[.int .i64 d.attr, .int .i64 d.bits, .int .i64 d.coarse, .int .i64 d.fine, .int .i64 d.curve, .int .i64 d.home, .int .i64 d.low, .int .i64 d.high, .bool d.snap, .slice va d.wheel.length vc] 161)) w.heap.size 161 #[.int .i64 d.attr, .int .i64 d.bits, .int .i64 d.coarse, .int .i64 d.fine, .int .i64 d.curve, .int .i64 d.home, .int .i64 d.low, .int .i64 d.high, .bool d.snap, .slice va d.wheel.length vc] := RowAt.new _ _ _
 have r1 : RowAt (w.alloc (.cells #[.int .i64 d.attr, .int .i64 d.bits, .int .i64 d.coarse, .int .i64 d.fine, .int .i64 d.curve, .int .i64 d.home, .int .i64 d.low, .int .i64 d.high, .bool d.snap, .slice va d.wheel.length vc] 161)) p 131 #[.pointer (some ⟨b, 0, none⟩)] := RowAt.alloc (hp) _
 have hk0 : KeptW B b w (w.alloc (.cells #[.int .i64 d.attr, .int .i64 d.bits, .int .i64 d.coarse, .int .i64 d.fine, .int .i64 d.curve, .int .i64 d.home, .int .i64 d.low, .int .i64 d.high, .bool d.snap, .slice va d.wheel.length vc] 161)) := (KeptW.refl _ _ _).alloc hB _
 have S0 := hid (And.intro hw0 (And.intro r0 (And.intro r1 hk0)))
 clear hw0 hk0 h hlen r0 r1 hp
 obtain ⟨x01, x02, x03, x04, x05, x06⟩ := zaa S0.out.2.1
 obtain ⟨x11, x12, x13, x14, x15, x16⟩ := zaa S0.out.2.2.1
 go_enter Tryz.func203, Tryz.ntmps203
 go_wp2_with fail
 clear x01 x02 x03 x04 x05 x06 x11 x12 x13 x14 x15 x16
 refine (zxc B b _ d.attr d.bits d.coarse d.fine d.curve d.home d.low d.high _ _ (by first | (with_reducible rfl) | (simp; done)) S0.out.1 hd.ints (by have := HL.out; (try simp only [List.length_append] at this ⊢); omega) (Nat.le_trans hB S0.out.2.2.2.1.size)).mono ?_
 rintro e w1 ⟨rfl, hw, hk⟩
 have S1 := hid (And.intro hw (And.intro (hk.row S0.out.2.1 (S0.out.1.far S0.out.2.1 (by decide)) (by decide)) (And.intro (hk.row S0.out.2.2.1 (S0.out.1.far S0.out.2.2.1 (by decide)) (by decide)) (S0.out.2.2.2.trans hk))))
 clear hw hk
 obtain ⟨x01, x02, x03, x04, x05, x06⟩ := zaa S1.out.2.1
 obtain ⟨x11, x12, x13, x14, x15, x16⟩ := zaa S1.out.2.2.1
 go_wp2_with fail
 clear x01 x02 x03 x04 x05 x06 x11 x12 x13 x14 x15 x16
 refine (zdz B b _ d.snap _ S1.out.1 (by have := HL.out; (try simp only [List.length_append] at this ⊢); omega) (Nat.le_trans hB S1.out.2.2.2.1.size)).mono ?_
 rintro e w2 ⟨rfl, hw, hk⟩
 have S2 := hid (And.intro hw (And.intro (hk.row S1.out.2.1 (S1.out.1.far S1.out.2.1 (by decide)) (by decide)) (And.intro (hk.row S1.out.2.2.1 (S1.out.1.far S1.out.2.2.1 (by decide)) (by decide)) (S1.out.2.2.2.trans hk))))
 clear hw hk
 obtain ⟨x01, x02, x03, x04, x05, x06⟩ := zaa S2.out.2.1
 obtain ⟨x11, x12, x13, x14, x15, x16⟩ := zaa S2.out.2.2.1
 go_wp2_with fail
 clear x01 x02 x03 x04 x05 x06 x11 x12 x13 x14 x15 x16
 refine (zpl B b 205 (.pointer (some ⟨p, 0, none⟩)) slotB _ _ d.wheel w0 _ S2.out.1 (h0.trans (S2.out.2.2.2.1.mono hB0)) hB0 HV.out zq5 (fun s hs pre W hW hK hln => zvx B b p pre s W hW (hK.row S2.out.2.2.1 (S2.out.1.far S2.out.2.2.1 (by decide)) (by decide)) (by have := (hd.wheel s hs).1; unfold Len48 at this; omega) (hd.wheel s hs).2 hln (Nat.le_trans (Nat.le_trans hB S2.out.2.2.2.1.size) hK.1.size)) (by have := HL.out; (try simp only [List.length_append] at this ⊢); omega) (Nat.le_trans hB S2.out.2.2.2.1.size)).mono ?_
 rintro e w3 ⟨rfl, hw, hk⟩
 have S3 := hid (And.intro hw (And.intro (hk.row S2.out.2.1 (S2.out.1.far S2.out.2.1 (by decide)) (by decide)) (And.intro (hk.row S2.out.2.2.1 (S2.out.1.far S2.out.2.2.1 (by decide)) (by decide)) (S2.out.2.2.2.trans hk))))
 clear hw hk
 go_wp2
 (first | go_end0 | refine bodyPost_ret (results_none rfl _ _ _) rfl ?_)
 exact ⟨rfl, by have := S3.out.1; simpa [featB, featI, List.append_assoc] using this, S3.out.2.2.2⟩
theorem zr0 : ∀ args W, (callFunc 203 args).run Tryz.prog W = .ok (.enter 203 args) W := enters_of Tryz.func203 (by kernel_rfl) rfl
theorem zun (B b : Nat) (l : List UInt8) (d : ProfD) (v : Value) (w0 : World) (w : World) (h : Wtr B b l w) (h0 : Below w0.heap.size w0 w) (hB0 : w0.heap.size ≤ B) (hv : RL 10 featA RFeat w0 v d.feats) (hd : Prof64 d) (hlen : l.length + (profB d).length ≤ 140737488355328) (hB : B ≤ w.heap.size) :
  Calls Tryz.prog 90 #[.pointer (some ⟨b, 0, none⟩), .agg #[.string d.name, .int .i64 d.foot, .int .i64 d.watts, v]] w fun e w' => e = .returned (.tuple #[]) ∧ Wtr B b (l ++ profB d) w' ∧ KeptW B b w w' := by
 have hmf : ∀ (fn : Fn) (first cap : Array Value) (w : World), (Instr.makeFunc fn first cap).run Tryz.prog w = .ok (.func fn first cap) w := fun _ _ _ _ => rfl
 obtain ⟨xs, hxs, hv1, hv2⟩ := hv
 have HV := hid (And.intro hv1 hv2)
 have HX := hid hxs
 obtain ⟨va, vc, rfl⟩ := hv1.shape
 have hxl : d.feats.length = xs.length := by rw [← hxs, List.length_map]
 have hxf : d.feats.flatMap featB = xs.flatMap fun x => featB x.1 := by rw [← hxs, List.flatMap_map]
 have hxm : ∀ x ∈ xs, Feat64 x.1 := fun x hx => hd.feats _ (by rw [← hxs]; exact List.mem_map_of_mem hx)
 rw [profB, hxl, hxf] at hlen
 rw [profB, hxl, hxf]
 clear hv1 hv2 hxs hxl hxf
 have HL := hid (show l.length + (textB d.name).length + (intsB [d.foot, d.watts]).length + (intB xs.length ++ xs.flatMap (fun x => featB x.1)).length ≤ 140737488355328 from by
  (try simp only [List.length_append] at hlen ⊢)
  omega)
 have hbw := h.lt.2
 have hw0 : Wtr B b l ((w.alloc (.cells #[.pointer (some ⟨b, 0, none⟩)] 131)).alloc (.cells #[.string d.name, .int .i64 d.foot, .int .i64 d.watts, .slice va xs.length vc] 89)) := (h.alloc _).alloc _
 have r0 : RowAt ((w.alloc (.cells #[.pointer (some ⟨b, 0, none⟩)] 131)).alloc (.cells #[.string d.name, .int .i64 d.foot, .int .i64 d.watts, .slice va xs.length vc] 89)) w.heap.size 131 #[.pointer (some ⟨b, 0, none⟩)] := RowAt.alloc (RowAt.new _ _ _) _
 have r1 : RowAt ((w.alloc (.cells #[.pointer (some ⟨b, 0, none⟩)] 131)).alloc (.cells #[.string d.name, .int .i64 d.foot, .int .i64 d.watts, .slice va xs.length vc] 89)) (w.heap.size + 1) 89 #[.string d.name, .int .i64 d.foot, .int .i64 d.watts, .slice va xs.length vc] := RowAt.mk (by simp) rfl
 have hk0 : KeptW B b w ((w.alloc (.cells #[.pointer (some ⟨b, 0, none⟩)] 131)).alloc (.cells #[.string d.name, .int .i64 d.foot, .int .i64 d.watts, .slice va xs.length vc] 89)) := ((KeptW.refl _ _ _).alloc hB _).alloc (by simp; omega) _
 have S0 := hid (And.intro hw0 (And.intro r0 (And.intro r1 hk0)))
 clear hw0 hk0 h hlen r0 r1
 obtain ⟨x01, x02, x03, x04, x05, x06⟩ := zaa S0.out.2.1
 obtain ⟨x11, x12, x13, x14, x15, x16⟩ := zaa S0.out.2.2.1
 go_enter Tryz.func90, Tryz.ntmps90
 go_wp2_with fail
 clear x01 x02 x03 x04 x05 x06 x11 x12 x13 x14 x15 x16
 refine (zce B b _ d.name _ S0.out.1 (by have := hd.name; unfold Len48 at this; omega) (by have := HL.out; (try simp only [List.length_append] at this ⊢); omega) (Nat.le_trans hB S0.out.2.2.2.1.size)).mono ?_
 rintro e w1 ⟨rfl, hw, hk⟩
 have S1 := hid (And.intro hw (And.intro (hk.row S0.out.2.1 (S0.out.1.far S0.out.2.1 (by decide)) (by decide)) (And.intro (hk.row S0.out.2.2.1 (S0.out.1.far S0.out.2.2.1 (by decide)) (by decide)) (S0.out.2.2.2.trans hk))))
 clear hw hk
 obtain ⟨x01, x02, x03, x04, x05, x06⟩ := zaa S1.out.2.1
 obtain ⟨x11, x12, x13, x14, x15, x16⟩ := zaa S1.out.2.2.1
 go_wp2_with fail
 clear x01 x02 x03 x04 x05 x06 x11 x12 x13 x14 x15 x16
 refine (zcr B b _ d.foot d.watts _ _ (by first | (with_reducible rfl) | (simp; done)) S1.out.1 hd.ints (by have := HL.out; (try simp only [List.length_append] at this ⊢); omega) (Nat.le_trans hB S1.out.2.2.2.1.size)).mono ?_
 rintro e w2 ⟨rfl, hw, hk⟩
 have S2 := hid (And.intro hw (And.intro (hk.row S1.out.2.1 (S1.out.1.far S1.out.2.1 (by decide)) (by decide)) (And.intro (hk.row S1.out.2.2.1 (S1.out.1.far S1.out.2.2.1 (by decide)) (by decide)) (S1.out.2.2.2.trans hk))))
 clear hw hk
 obtain ⟨x01, x02, x03, x04, x05, x06⟩ := zaa S2.out.2.1
 obtain ⟨x11, x12, x13, x14, x15, x16⟩ := zaa S2.out.2.2.1
 go_wp2_with fail
 clear x01 x02 x03 x04 x05 x06 x11 x12 x13 x14 x15 x16
 refine (zra B b 203 (.pointer (some ⟨w.heap.size, 0, none⟩)) (fun x => featB x.1) _ _ xs w0 _ S2.out.1 (h0.trans (S2.out.2.2.2.1.mono hB0)) hB0 HV.out.1 (fun x hx => (HV.out.2 x hx).1.shape) zr0 (fun x hx pre W hW hK hln => zmj B b w.heap.size pre x.1 x.2 w0 W hW (hK.row S2.out.2.1 (S2.out.1.far S2.out.2.1 (by decide)) (by decide)) ((h0.trans (S2.out.2.2.2.1.mono hB0)).trans (hK.1.mono hB0)) hB0 (HV.out.2 x hx).1 (hxm x hx) hln (Nat.le_trans (Nat.le_trans hB S2.out.2.2.2.1.size) hK.1.size)) (by have := HL.out; (try simp only [List.length_append] at this ⊢); omega) (Nat.le_trans hB S2.out.2.2.2.1.size)).mono ?_
 rintro e w3 ⟨rfl, hw, hk⟩
 have S3 := hid (And.intro hw (And.intro (hk.row S2.out.2.1 (S2.out.1.far S2.out.2.1 (by decide)) (by decide)) (And.intro (hk.row S2.out.2.2.1 (S2.out.1.far S2.out.2.2.1 (by decide)) (by decide)) (S2.out.2.2.2.trans hk))))
 clear hw hk
 go_wp2
 (first | go_end0 | refine bodyPost_ret (results_none rfl _ _ _) rfl ?_)
 exact ⟨rfl, by have := S3.out.1; simpa [List.append_assoc] using this, S3.out.2.2.2⟩
theorem zxe (B b : Nat) (l : List UInt8) (d : FixD) (w : World) (h : Wtr B b l w) (hd : Fix64 d) (hlen : l.length + (fixB d).length ≤ 140737488355328) (hB : B ≤ w.heap.size) :
  Calls Tryz.prog 92 #[.pointer (some ⟨b, 0, none⟩), .agg #[.int .i64 d.ch, .int .i64 d.part, .string d.prof, .int .i64 d.uni, .int .i64 d.addr, .int .i64 d.phase, .string d.cable]] w fun e w' => e = .returned (.tuple #[]) ∧ Wtr B b (l ++ (fixB d)) w' ∧ KeptW B b w w' := by
 have HL := hid (show l.length + (intsB [d.ch, d.part]).length + (textB d.prof).length + (intsB [d.uni, d.addr, d.phase]).length + (textB d.cable).length ≤ 140737488355328 from by
  (try simp only [fixB, List.length_append] at hlen ⊢)
  omega)
 have hbw := h.lt.2
 have hw0 : Wtr B b l (w.alloc (.cells #[.int .i64 d.ch, .int .i64 d.part, .string d.prof, .int .i64 d.uni, .int .i64 d.addr, .int .i64 d.phase, .string d.cable] 173)) := h.alloc _
 have r0 : RowAt (w.alloc (.cells #[.int .i64 d.ch, .int .i64 d.part, .string d.prof, .int .i64 d.uni, .int .i64 d.addr, .int .i64 d.phase, .string d.cable] 173)) w.heap.size 173 #[.int .i64 d.ch, .int .i64 d.part, .string d.prof, .int .i64 d.uni, .int .i64 d.addr, .int .i64 d.phase, .string d.cable] := RowAt.new _ _ _
 have hk0 : KeptW B b w (w.alloc (.cells #[.int .i64 d.ch, .int .i64 d.part, .string d.prof, .int .i64 d.uni, .int .i64 d.addr, .int .i64 d.phase, .string d.cable] 173)) := (KeptW.refl _ _ _).alloc hB _
 have S0 := hid (And.intro hw0 (And.intro r0 hk0))
 clear hw0 hk0 h hlen r0
 obtain ⟨x01, x02, x03, x04, x05, x06⟩ := zaa S0.out.2.1
 go_enter Tryz.func92, Tryz.ntmps92
 go_wp2_with fail
 clear x01 x02 x03 x04 x05 x06
 refine (zcr B b _ d.ch d.part _ _ (by first | (with_reducible rfl) | (simp; done)) S0.out.1 hd.i1 (by have := HL.out; (try simp only [List.length_append] at this ⊢); omega) (Nat.le_trans hB S0.out.2.2.1.size)).mono ?_
 rintro e w1 ⟨rfl, hw, hk⟩
 have S1 := hid (And.intro hw (And.intro (hk.row S0.out.2.1 (S0.out.1.far S0.out.2.1 (by decide)) (by decide)) (S0.out.2.2.trans hk)))
 clear hw hk
 obtain ⟨x01, x02, x03, x04, x05, x06⟩ := zaa S1.out.2.1
 go_wp2_with fail
 clear x01 x02 x03 x04 x05 x06
 refine (zce B b _ d.prof _ S1.out.1 (by have := hd.prof; unfold Len48 at this; omega) (by have := HL.out; (try simp only [List.length_append] at this ⊢); omega) (Nat.le_trans hB S1.out.2.2.1.size)).mono ?_
 rintro e w2 ⟨rfl, hw, hk⟩
 have S2 := hid (And.intro hw (And.intro (hk.row S1.out.2.1 (S1.out.1.far S1.out.2.1 (by decide)) (by decide)) (S1.out.2.2.trans hk)))
 clear hw hk
 obtain ⟨x01, x02, x03, x04, x05, x06⟩ := zaa S2.out.2.1
 go_wp2_with fail
 clear x01 x02 x03 x04 x05 x06
 refine (zjn B b _ d.uni d.addr d.phase _ _ (by first | (with_reducible rfl) | (simp; done)) S2.out.1 hd.i2 (by have := HL.out; (try simp only [List.length_append] at this ⊢); omega) (Nat.le_trans hB S2.out.2.2.1.size)).mono ?_
 rintro e w3 ⟨rfl, hw, hk⟩
 have S3 := hid (And.intro hw (And.intro (hk.row S2.out.2.1 (S2.out.1.far S2.out.2.1 (by decide)) (by decide)) (S2.out.2.2.trans hk)))
 clear hw hk
 obtain ⟨x01, x02, x03, x04, x05, x06⟩ := zaa S3.out.2.1
 go_wp2_with fail
 clear x01 x02 x03 x04 x05 x06
 refine (zce B b _ d.cable _ S3.out.1 (by have := hd.cable; unfold Len48 at this; omega) (by have := HL.out; (try simp only [List.length_append] at this ⊢); omega) (Nat.le_trans hB S3.out.2.2.1.size)).mono ?_
 rintro e w4 ⟨rfl, hw, hk⟩
 have S4 := hid (And.intro hw (And.intro (hk.row S3.out.2.1 (S3.out.1.far S3.out.2.1 (by decide)) (by decide)) (S3.out.2.2.trans hk)))
 clear hw hk
 go_wp2
 (first | go_end0 | refine bodyPost_ret (results_none rfl _ _ _) rfl ?_)
 exact ⟨rfl, by have := S4.out.1; simpa [fixB, List.append_assoc] using this, S4.out.2.2⟩
theorem zvm (B b : Nat) (l : List UInt8) (d : SubD) (v : Value) (w0 : World) (w : World) (h : Wtr B b l w) (h0 : Below w0.heap.size w0 w) (hB0 : w0.heap.size ≤ B) (hv : ListAt 3 gainA w0 v d.gains) (hd : Ints64 [d.num, d.pri]) (hg : ∀ g ∈ d.gains, Ints64 (gainI g)) (hlen : l.length + (subB d).length ≤ 140737488355328) (hB : B ≤ w.heap.size) :
  Calls Tryz.prog 102 #[.pointer (some ⟨b, 0, none⟩), .agg #[.int .i64 d.num, .int .i64 d.pri, .bool d.inh, v]] w fun e w' => e = .returned (.tuple #[]) ∧ Wtr B b (l ++ (subB d)) w' ∧ KeptW B b w w' := by
 have hmf : ∀ (fn : Fn) (first cap : Array Value) (w : World), (Instr.makeFunc fn first cap).run Tryz.prog w = .ok (.func fn first cap) w := fun _ _ _ _ => rfl
 have HV := hid hv
 obtain ⟨va, vc, rfl⟩ := hv.shape
 clear hv
 have HL := hid (show l.length + (intsB [d.num, d.pri]).length + (intB (truthI d.inh)).length + (intB d.gains.length ++ d.gains.flatMap gainB).length ≤ 140737488355328 from by
  (try simp only [subB, List.length_append] at hlen ⊢)
  omega)
 have hbw := h.lt.2
 have hw0 : Wtr B b l ((w.alloc (.cells #[.pointer (some ⟨b, 0, none⟩)] 131)).alloc (.cells #[.int .i64 d.num, .int .i64 d.pri, .bool d.inh, .slice va d.gains.length vc] 153)) := (h.alloc _).alloc _
 have r0 : RowAt ((w.alloc (.cells #[.pointer (some ⟨b, 0, none⟩)] 131)).alloc (.cells #[.int .i64 d.num, .int .i64 d.pri, .bool d.inh, .slice va d.gains.length vc] 153)) w.heap.size 131 #[.pointer (some ⟨b, 0, none⟩)] := RowAt.alloc (RowAt.new _ _ _) _
 have r1 : RowAt ((w.alloc (.cells #[.pointer (some ⟨b, 0, none⟩)] 131)).alloc (.cells #[.int .i64 d.num, .int .i64 d.pri, .bool d.inh, .slice va d.gains.length vc] 153)) (w.heap.size + 1) 153 #[.int .i64 d.num, .int .i64 d.pri, .bool d.inh, .slice va d.gains.length vc] := RowAt.mk (by simp) rfl
 have hk0 : KeptW B b w ((w.alloc (.cells #[.pointer (some ⟨b, 0, none⟩)] 131)).alloc (.cells #[.int .i64 d.num, .int .i64 d.pri, .bool d.inh, .slice va d.gains.length vc] 153)) := ((KeptW.refl _ _ _).alloc hB _).alloc (by simp; omega) _
 have S0 := hid (And.intro hw0 (And.intro r0 (And.intro r1 hk0)))
 clear hw0 hk0 h hlen r0 r1
 obtain ⟨x01, x02, x03, x04, x05, x06⟩ := zaa S0.out.2.1
 obtain ⟨x11, x12, x13, x14, x15, x16⟩ := zaa S0.out.2.2.1
 go_enter Tryz.func102, Tryz.ntmps102
 go_wp2_with fail
 clear x01 x02 x03 x04 x05 x06 x11 x12 x13 x14 x15 x16
 refine (zcr B b _ d.num d.pri _ _ (by first | (with_reducible rfl) | (simp; done)) S0.out.1 hd (by have := HL.out; (try simp only [List.length_append] at this ⊢); omega) (Nat.le_trans hB S0.out.2.2.2.1.size)).mono ?_
 rintro e w1 ⟨rfl, hw, hk⟩
 have S1 := hid (And.intro hw (And.intro (hk.row S0.out.2.1 (S0.out.1.far S0.out.2.1 (by decide)) (by decide)) (And.intro (hk.row S0.out.2.2.1 (S0.out.1.far S0.out.2.2.1 (by decide)) (by decide)) (S0.out.2.2.2.trans hk))))
 clear hw hk
 obtain ⟨x01, x02, x03, x04, x05, x06⟩ := zaa S1.out.2.1
 obtain ⟨x11, x12, x13, x14, x15, x16⟩ := zaa S1.out.2.2.1
 go_wp2_with fail
 clear x01 x02 x03 x04 x05 x06 x11 x12 x13 x14 x15 x16
 refine (zdz B b _ d.inh _ S1.out.1 (by have := HL.out; (try simp only [List.length_append] at this ⊢); omega) (Nat.le_trans hB S1.out.2.2.2.1.size)).mono ?_
 rintro e w2 ⟨rfl, hw, hk⟩
 have S2 := hid (And.intro hw (And.intro (hk.row S1.out.2.1 (S1.out.1.far S1.out.2.1 (by decide)) (by decide)) (And.intro (hk.row S1.out.2.2.1 (S1.out.1.far S1.out.2.2.1 (by decide)) (by decide)) (S1.out.2.2.2.trans hk))))
 clear hw hk
 obtain ⟨x01, x02, x03, x04, x05, x06⟩ := zaa S2.out.2.1
 obtain ⟨x11, x12, x13, x14, x15, x16⟩ := zaa S2.out.2.2.1
 go_wp2_with fail
 clear x01 x02 x03 x04 x05 x06 x11 x12 x13 x14 x15 x16
 refine (zvc B b 207 (.pointer (some ⟨w.heap.size, 0, none⟩)) gainB _ _ d.gains w0 _ S2.out.1 (h0.trans (S2.out.2.2.2.1.mono hB0)) hB0 HV.out zs2 (fun s hs pre W hW hK hln => zye B b w.heap.size pre s W hW (hK.row S2.out.2.1 (S2.out.1.far S2.out.2.1 (by decide)) (by decide)) (hg s hs) hln (Nat.le_trans (Nat.le_trans hB S2.out.2.2.2.1.size) hK.1.size)) (by have := HL.out; (try simp only [List.length_append] at this ⊢); omega) (Nat.le_trans hB S2.out.2.2.2.1.size)).mono ?_
 rintro e w3 ⟨rfl, hw, hk⟩
 have S3 := hid (And.intro hw (And.intro (hk.row S2.out.2.1 (S2.out.1.far S2.out.2.1 (by decide)) (by decide)) (And.intro (hk.row S2.out.2.2.1 (S2.out.1.far S2.out.2.2.1 (by decide)) (by decide)) (S2.out.2.2.2.trans hk))))
 clear hw hk
 go_wp2
 (first | go_end0 | refine bodyPost_ret (results_none rfl _ _ _) rfl ?_)
 exact ⟨rfl, by have := S3.out.1; simpa [subB, List.append_assoc] using this, S3.out.2.2.2⟩
theorem zlw (B b : Nat) (l : List UInt8) (d : EffD) (v : Value) (w0 : World) (w : World) (h : Wtr B b l w) (h0 : Below w0.heap.size w0 w) (hB0 : w0.heap.size ≤ B) (hv : ListAt 2 ptA w0 v d.wave) (hd : Ints64 [d.num, d.attr]) (hg : ∀ p ∈ d.wave, Ints64 [p.1, p.2]) (h3 : Ints64 [d.per, d.spr, d.size]) (hlen : l.length + (effB d).length ≤ 140737488355328) (hB : B ≤ w.heap.size) :
  Calls Tryz.prog 104 #[.pointer (some ⟨b, 0, none⟩), .agg #[.int .i64 d.num, .int .i64 d.attr, v, .int .i64 d.per, .int .i64 d.spr, .int .i64 d.size]] w fun e w' => e = .returned (.tuple #[]) ∧ Wtr B b (l ++ (effB d)) w' ∧ KeptW B b w w' := by
 have HV := hid hv
 obtain ⟨va, vc, rfl⟩ := hv.shape
 clear hv
 have HL := hid (show l.length + (intsB [d.num, d.attr]).length + (ptsB d.wave).length + (intsB [d.per, d.spr, d.size]).length ≤ 140737488355328 from by
  (try simp only [effB, List.length_append] at hlen ⊢)
  omega)
 have hbw := h.lt.2
 have hw0 : Wtr B b l (w.alloc (.cells #[.int .i64 d.num, .int .i64 d.attr, .slice va d.wave.length vc, .int .i64 d.per, .int .i64 d.spr, .int .i64 d.size] 183)) := h.alloc _
 have r0 : RowAt (w.alloc (.cells #[.int .i64 d.num, .int .i64 d.attr, .slice va d.wave.length vc, .int .i64 d.per, .int .i64 d.spr, .int .i64 d.size] 183)) w.heap.size 183 #[.int .i64 d.num, .int .i64 d.attr, .slice va d.wave.length vc, .int .i64 d.per, .int .i64 d.spr, .int .i64 d.size] := RowAt.new _ _ _
 have hk0 : KeptW B b w (w.alloc (.cells #[.int .i64 d.num, .int .i64 d.attr, .slice va d.wave.length vc, .int .i64 d.per, .int .i64 d.spr, .int .i64 d.size] 183)) := (KeptW.refl _ _ _).alloc hB _
 have S0 := hid (And.intro hw0 (And.intro r0 hk0))
 clear hw0 hk0 h hlen r0
 obtain ⟨x01, x02, x03, x04, x05, x06⟩ := zaa S0.out.2.1
 go_enter Tryz.func104, Tryz.ntmps104
 go_wp2_with fail
 clear x01 x02 x03 x04 x05 x06
 refine (zcr B b _ d.num d.attr _ _ (by first | (with_reducible rfl) | (simp; done)) S0.out.1 hd (by have := HL.out; (try simp only [List.length_append] at this ⊢); omega) (Nat.le_trans hB S0.out.2.2.1.size)).mono ?_
 rintro e w1 ⟨rfl, hw, hk⟩
 have S1 := hid (And.intro hw (And.intro (hk.row S0.out.2.1 (S0.out.1.far S0.out.2.1 (by decide)) (by decide)) (S0.out.2.2.trans hk)))
 clear hw hk
 obtain ⟨x01, x02, x03, x04, x05, x06⟩ := zaa S1.out.2.1
 go_wp2_with fail
 clear x01 x02 x03 x04 x05 x06
 refine (zh1 B b _ _ d.wave w0 _ S1.out.1 (h0.trans (S1.out.2.2.1.mono hB0)) hB0 HV.out hg (by have := HL.out; (try simp only [List.length_append] at this ⊢); omega) (Nat.le_trans hB S1.out.2.2.1.size)).mono ?_
 rintro e w2 ⟨rfl, hw, hk⟩
 have S2 := hid (And.intro hw (And.intro (hk.row S1.out.2.1 (S1.out.1.far S1.out.2.1 (by decide)) (by decide)) (S1.out.2.2.trans hk)))
 clear hw hk
 obtain ⟨x01, x02, x03, x04, x05, x06⟩ := zaa S2.out.2.1
 go_wp2_with fail
 clear x01 x02 x03 x04 x05 x06
 refine (zjn B b _ d.per d.spr d.size _ _ (by first | (with_reducible rfl) | (simp; done)) S2.out.1 h3 (by have := HL.out; (try simp only [List.length_append] at this ⊢); omega) (Nat.le_trans hB S2.out.2.2.1.size)).mono ?_
 rintro e w3 ⟨rfl, hw, hk⟩
 have S3 := hid (And.intro hw (And.intro (hk.row S2.out.2.1 (S2.out.1.far S2.out.2.1 (by decide)) (by decide)) (S2.out.2.2.trans hk)))
 clear hw hk
 go_wp2
 (first | go_end0 | refine bodyPost_ret (results_none rfl _ _ _) rfl ?_)
 exact ⟨rfl, by have := S3.out.1; simpa [effB, List.append_assoc] using this, S3.out.2.2⟩
theorem LowAt.mono {α : Type} {B B2 S : Nat} {f : α → Array Value} {w : World} {v : Value} {l : List α} (h : LowAt B2 S f w v l) (hB : B2 ≤ B) : LowAt B S f w v l := by
 rcases h with h | ⟨h0, h1, b, off, cap, rfl, hlt, hc⟩
 · exact .inl h
 exact .inr ⟨h0, h1, b, off, cap, rfl, by omega, hc⟩
theorem zf3 (B b : Nat) (l : List UInt8) (q : Nat) (v : Value) (c : List Pt) (w0 : World) (w : World) (h : Wtr B b l w) (h0 : Below w0.heap.size w0 w) (hB0 : w0.heap.size ≤ B) (hv : ListAt 2 ptA w0 v c) (hi : ∀ p ∈ c, Ints64 [p.1, p.2]) (hq : RowAt w q 144 #[v]) (hlen : l.length + (ptsB c).length ≤ 140737488355328) (hB : B ≤ w.heap.size) :
  Calls Tryz.prog 87 #[.pointer (some ⟨b, 0, none⟩), .pointer (some ⟨q, 0, none⟩)] w fun e w' => e = .returned (.tuple #[]) ∧ Wtr B b (l ++ (ptsB c)) w' ∧ KeptW B b w w' := by
 have HV := hid hv
 obtain ⟨va, vc, rfl⟩ := hv.shape
 clear hv
 have HL := hid (show l.length + (ptsB c).length ≤ 140737488355328 from by
  (try simp only [List.length_append] at hlen ⊢)
  omega)
 have hbw := h.lt.2
 have hw0 : Wtr B b l w := h
 have r0 : RowAt w q 144 #[.slice va c.length vc] := hq
 have hk0 : KeptW B b w w := KeptW.refl _ _ _
 have S0 := hid (And.intro hw0 (And.intro r0 hk0))
 clear hw0 hk0 h hlen r0 hq
 obtain ⟨x01, x02, x03, x04, x05, x06⟩ := zaa S0.out.2.1
 go_enter Tryz.func87, Tryz.ntmps87
 go_wp2_with fail
 clear x01 x02 x03 x04 x05 x06
 refine (zh1 B b _ _ c w0 _ S0.out.1 (h0.trans (S0.out.2.2.1.mono hB0)) hB0 HV.out hi (by have := HL.out; (try simp only [List.length_append] at this ⊢); omega) (Nat.le_trans hB S0.out.2.2.1.size)).mono ?_
 rintro e w1 ⟨rfl, hw, hk⟩
 have S1 := hid (And.intro hw (And.intro (hk.row S0.out.2.1 (S0.out.1.far S0.out.2.1 (by decide)) (by decide)) (S0.out.2.2.trans hk)))
 clear hw hk
 go_wp2
 (first | go_end0 | refine bodyPost_ret (results_none rfl _ _ _) rfl ?_)
 exact ⟨rfl, by have := S1.out.1; simpa [List.append_assoc] using this, S1.out.2.2⟩
theorem zou : ∀ args W, (callFunc 87 args).run Tryz.prog W = .ok (.enter 87 args) W := enters_of Tryz.func87 (by kernel_rfl) rfl
theorem zym (B b : Nat) (l : List UInt8) (q : Nat) (d : ProfD) (v : Value) (w0 : World) (w : World) (h : Wtr B b l w) (h0 : Below w0.heap.size w0 w) (hB0 : w0.heap.size ≤ B) (hv : RL 10 featA RFeat w0 v d.feats) (hd : Prof64 d) (hq : RowAt w q 89 (profA (d, v))) (hlen : l.length + (profB d).length ≤ 140737488355328) (hB : B ≤ w.heap.size) :
  Calls Tryz.prog 89 #[.pointer (some ⟨b, 0, none⟩), .pointer (some ⟨q, 0, none⟩)] w fun e w' => e = .returned (.tuple #[]) ∧ Wtr B b (l ++ (profB d)) w' ∧ KeptW B b w w' := by
 have HV := hid hv
 obtain ⟨va, vc, rfl⟩ := hv.shape
 clear hv
 simp only [profA] at hq
 have HL := hid (show l.length + (profB d).length ≤ 140737488355328 from by
  (try simp only [List.length_append] at hlen ⊢)
  omega)
 have hbw := h.lt.2
 have hw0 : Wtr B b l w := h
 have r0 : RowAt w q 89 #[.string d.name, .int .i64 d.foot, .int .i64 d.watts, .slice va d.feats.length vc] := hq
 have hk0 : KeptW B b w w := KeptW.refl _ _ _
 have S0 := hid (And.intro hw0 (And.intro r0 hk0))
 clear hw0 hk0 h hlen r0 hq
 obtain ⟨x01, x02, x03, x04, x05, x06⟩ := zaa S0.out.2.1
 go_enter Tryz.func89, Tryz.ntmps89
 go_wp2_with fail
 clear x01 x02 x03 x04 x05 x06
 refine (zun B b _ d _ w0 _ S0.out.1 (h0.trans (S0.out.2.2.1.mono hB0)) hB0 HV.out hd (by have := HL.out; (try simp only [List.length_append] at this ⊢); omega) (Nat.le_trans hB S0.out.2.2.1.size)).mono ?_
 rintro e w1 ⟨rfl, hw, hk⟩
 have S1 := hid (And.intro hw (And.intro (hk.row S0.out.2.1 (S0.out.1.far S0.out.2.1 (by decide)) (by decide)) (S0.out.2.2.trans hk)))
 clear hw hk
 go_wp2
 (first | go_end0 | refine bodyPost_ret (results_none rfl _ _ _) rfl ?_)
 exact ⟨rfl, by have := S1.out.1; simpa [List.append_assoc] using this, S1.out.2.2⟩
theorem zp3 : ∀ args W, (callFunc 89 args).run Tryz.prog W = .ok (.enter 89 args) W := enters_of Tryz.func89 (by kernel_rfl) rfl
theorem zcb (B b : Nat) (l : List UInt8) (q : Nat) (d : FixD) (w : World) (h : Wtr B b l w) (hd : Fix64 d) (hq : RowAt w q 173 (fixA d)) (hlen : l.length + (fixB d).length ≤ 140737488355328) (hB : B ≤ w.heap.size) :
  Calls Tryz.prog 91 #[.pointer (some ⟨b, 0, none⟩), .pointer (some ⟨q, 0, none⟩)] w fun e w' => e = .returned (.tuple #[]) ∧ Wtr B b (l ++ (fixB d)) w' ∧ KeptW B b w w' := by
 simp only [fixA] at hq
 have HL := hid (show l.length + (fixB d).length ≤ 140737488355328 from by
  (try simp only [List.length_append] at hlen ⊢)
  omega)
 have hbw := h.lt.2
 have hw0 : Wtr B b l w := h
 have r0 : RowAt w q 173 #[.int .i64 d.ch, .int .i64 d.part, .string d.prof, .int .i64 d.uni, .int .i64 d.addr, .int .i64 d.phase, .string d.cable] := hq
 have hk0 : KeptW B b w w := KeptW.refl _ _ _
 have S0 := hid (And.intro hw0 (And.intro r0 hk0))
 clear hw0 hk0 h hlen r0 hq
 obtain ⟨x01, x02, x03, x04, x05, x06⟩ := zaa S0.out.2.1
 go_enter Tryz.func91, Tryz.ntmps91
 go_wp2_with fail
 clear x01 x02 x03 x04 x05 x06
 refine (zxe B b _ d _ S0.out.1 hd (by have := HL.out; (try simp only [List.length_append] at this ⊢); omega) (Nat.le_trans hB S0.out.2.2.1.size)).mono ?_
 rintro e w1 ⟨rfl, hw, hk⟩
 have S1 := hid (And.intro hw (And.intro (hk.row S0.out.2.1 (S0.out.1.far S0.out.2.1 (by decide)) (by decide)) (S0.out.2.2.trans hk)))
 clear hw hk
 go_wp2
 (first | go_end0 | refine bodyPost_ret (results_none rfl _ _ _) rfl ?_)
 exact ⟨rfl, by have := S1.out.1; simpa [List.append_assoc] using this, S1.out.2.2⟩
theorem znf : ∀ args W, (callFunc 91 args).run Tryz.prog W = .ok (.enter 91 args) W := enters_of Tryz.func91 (by kernel_rfl) rfl
theorem zp8 (B b : Nat) (l : List UInt8) (q : Nat) (d : GrpD) (v : Value) (w0 : World) (w : World) (h : Wtr B b l w) (h0 : Below w0.heap.size w0 w) (hB0 : w0.heap.size ≤ B) (hv : ListAt 1 intC w0 v d.chs) (hd : Ints64 [d.num]) (hg : Ints64 d.chs) (hq : RowAt w q 147 (grpA (d, v))) (hlen : l.length + (grpB d).length ≤ 140737488355328) (hB : B ≤ w.heap.size) :
  Calls Tryz.prog 93 #[.pointer (some ⟨b, 0, none⟩), .pointer (some ⟨q, 0, none⟩)] w fun e w' => e = .returned (.tuple #[]) ∧ Wtr B b (l ++ (grpB d)) w' ∧ KeptW B b w w' := by
 have hmf : ∀ (fn : Fn) (first cap : Array Value) (w : World), (Instr.makeFunc fn first cap).run Tryz.prog w = .ok (.func fn first cap) w := fun _ _ _ _ => rfl
 have HV := hid hv
 obtain ⟨va, vc, rfl⟩ := hv.shape
 clear hv
 simp only [grpA] at hq
 have HL := hid (show l.length + (intB d.num).length + (intB d.chs.length ++ d.chs.flatMap intB).length ≤ 140737488355328 from by
  (try simp only [grpB, List.length_append] at hlen ⊢)
  omega)
 have hbw := h.lt.2
 have hw0 : Wtr B b l (w.alloc (.cells #[.pointer (some ⟨b, 0, none⟩)] 131)) := h.alloc _
 have r0 : RowAt (w.alloc (.cells #[.pointer (some ⟨b, 0, none⟩)] 131)) w.heap.size 131 #[.pointer (some ⟨b, 0, none⟩)] := RowAt.new _ _ _
 have r1 : RowAt (w.alloc (.cells #[.pointer (some ⟨b, 0, none⟩)] 131)) q 147 #[.int .i64 d.num, .slice va d.chs.length vc] := RowAt.alloc (hq) _
 have hk0 : KeptW B b w (w.alloc (.cells #[.pointer (some ⟨b, 0, none⟩)] 131)) := (KeptW.refl _ _ _).alloc hB _
 have S0 := hid (And.intro hw0 (And.intro r0 (And.intro r1 hk0)))
 clear hw0 hk0 h hlen r0 r1 hq
 obtain ⟨x01, x02, x03, x04, x05, x06⟩ := zaa S0.out.2.1
 obtain ⟨x11, x12, x13, x14, x15, x16⟩ := zaa S0.out.2.2.1
 go_enter Tryz.func93, Tryz.ntmps93
 go_wp2_with fail
 clear x01 x02 x03 x04 x05 x06 x11 x12 x13 x14 x15 x16
 refine (zfh B b _ d.num _ _ (by first | (with_reducible rfl) | (simp; done)) S0.out.1 (one64 hd) (by have := HL.out; (try simp only [List.length_append] at this ⊢); omega) (Nat.le_trans hB S0.out.2.2.2.1.size)).mono ?_
 rintro e w1 ⟨rfl, hw, hk⟩
 have S1 := hid (And.intro hw (And.intro (hk.row S0.out.2.1 (S0.out.1.far S0.out.2.1 (by decide)) (by decide)) (And.intro (hk.row S0.out.2.2.1 (S0.out.1.far S0.out.2.2.1 (by decide)) (by decide)) (S0.out.2.2.2.trans hk))))
 clear hw hk
 obtain ⟨x01, x02, x03, x04, x05, x06⟩ := zaa S1.out.2.1
 obtain ⟨x11, x12, x13, x14, x15, x16⟩ := zaa S1.out.2.2.1
 go_wp2_with fail
 clear x01 x02 x03 x04 x05 x06 x11 x12 x13 x14 x15 x16
 refine (zxl B b 95 (.pointer (some ⟨w.heap.size, 0, none⟩)) intB _ _ d.chs w0 _ S1.out.1 (h0.trans (S1.out.2.2.2.1.mono hB0)) hB0 HV.out zrl (fun s hs pre W hW hK hln => zpk B b pre w.heap.size s W hW (hK.row S1.out.2.1 (S1.out.1.far S1.out.2.1 (by decide)) (by decide)) (hg s hs) hln (Nat.le_trans (Nat.le_trans hB S1.out.2.2.2.1.size) hK.1.size)) (by have := HL.out; (try simp only [List.length_append] at this ⊢); omega) (Nat.le_trans hB S1.out.2.2.2.1.size)).mono ?_
 rintro e w2 ⟨rfl, hw, hk⟩
 have S2 := hid (And.intro hw (And.intro (hk.row S1.out.2.1 (S1.out.1.far S1.out.2.1 (by decide)) (by decide)) (And.intro (hk.row S1.out.2.2.1 (S1.out.1.far S1.out.2.2.1 (by decide)) (by decide)) (S1.out.2.2.2.trans hk))))
 clear hw hk
 go_wp2
 (first | go_end0 | refine bodyPost_ret (results_none rfl _ _ _) rfl ?_)
 exact ⟨rfl, by have := S2.out.1; simpa [grpB, List.append_assoc] using this, S2.out.2.2.2⟩
theorem zn9 : ∀ args W, (callFunc 93 args).run Tryz.prog W = .ok (.enter 93 args) W := enters_of Tryz.func93 (by kernel_rfl) rfl
theorem zp7 (B b : Nat) (l : List UInt8) (q : Nat) (d : PalD) (v : Value) (w0 : World) (w : World) (h : Wtr B b l w) (h0 : Below w0.heap.size w0 w) (hB0 : w0.heap.size ≤ B) (hv : ListAt 3 hueA w0 v d.hues) (hd : Ints64 [d.num]) (hg : ∀ h ∈ d.hues, Ints64 (hueI h)) (hq : RowAt w q 150 (palA (d, v))) (hlen : l.length + (palB d).length ≤ 140737488355328) (hB : B ≤ w.heap.size) :
  Calls Tryz.prog 96 #[.pointer (some ⟨b, 0, none⟩), .pointer (some ⟨q, 0, none⟩)] w fun e w' => e = .returned (.tuple #[]) ∧ Wtr B b (l ++ (palB d)) w' ∧ KeptW B b w w' := by
 have hmf : ∀ (fn : Fn) (first cap : Array Value) (w : World), (Instr.makeFunc fn first cap).run Tryz.prog w = .ok (.func fn first cap) w := fun _ _ _ _ => rfl
 have HV := hid hv
 obtain ⟨va, vc, rfl⟩ := hv.shape
 clear hv
 simp only [palA] at hq
 have HL := hid (show l.length + (intB d.num).length + (intB d.hues.length ++ d.hues.flatMap hueB).length ≤ 140737488355328 from by
  (try simp only [palB, List.length_append] at hlen ⊢)
  omega)
 have hbw := h.lt.2
 have hw0 : Wtr B b l (w.alloc (.cells #[.pointer (some ⟨b, 0, none⟩)] 131)) := h.alloc _
 have r0 : RowAt (w.alloc (.cells #[.pointer (some ⟨b, 0, none⟩)] 131)) w.heap.size 131 #[.pointer (some ⟨b, 0, none⟩)] := RowAt.new _ _ _
 have r1 : RowAt (w.alloc (.cells #[.pointer (some ⟨b, 0, none⟩)] 131)) q 150 #[.int .i64 d.num, .slice va d.hues.length vc] := RowAt.alloc (hq) _
 have hk0 : KeptW B b w (w.alloc (.cells #[.pointer (some ⟨b, 0, none⟩)] 131)) := (KeptW.refl _ _ _).alloc hB _
 have S0 := hid (And.intro hw0 (And.intro r0 (And.intro r1 hk0)))
 clear hw0 hk0 h hlen r0 r1 hq
 obtain ⟨x01, x02, x03, x04, x05, x06⟩ := zaa S0.out.2.1
 obtain ⟨x11, x12, x13, x14, x15, x16⟩ := zaa S0.out.2.2.1
 go_enter Tryz.func96, Tryz.ntmps96
 go_wp2_with fail
 clear x01 x02 x03 x04 x05 x06 x11 x12 x13 x14 x15 x16
 refine (zfh B b _ d.num _ _ (by first | (with_reducible rfl) | (simp; done)) S0.out.1 (one64 hd) (by have := HL.out; (try simp only [List.length_append] at this ⊢); omega) (Nat.le_trans hB S0.out.2.2.2.1.size)).mono ?_
 rintro e w1 ⟨rfl, hw, hk⟩
 have S1 := hid (And.intro hw (And.intro (hk.row S0.out.2.1 (S0.out.1.far S0.out.2.1 (by decide)) (by decide)) (And.intro (hk.row S0.out.2.2.1 (S0.out.1.far S0.out.2.2.1 (by decide)) (by decide)) (S0.out.2.2.2.trans hk))))
 clear hw hk
 obtain ⟨x01, x02, x03, x04, x05, x06⟩ := zaa S1.out.2.1
 obtain ⟨x11, x12, x13, x14, x15, x16⟩ := zaa S1.out.2.2.1
 go_wp2_with fail
 clear x01 x02 x03 x04 x05 x06 x11 x12 x13 x14 x15 x16
 refine (zu3 B b 98 (.pointer (some ⟨w.heap.size, 0, none⟩)) hueB _ _ d.hues w0 _ S1.out.1 (h0.trans (S1.out.2.2.2.1.mono hB0)) hB0 HV.out zxw (fun s hs pre W hW hK hln => zyn B b w.heap.size pre s W hW (hK.row S1.out.2.1 (S1.out.1.far S1.out.2.1 (by decide)) (by decide)) (hg s hs) hln (Nat.le_trans (Nat.le_trans hB S1.out.2.2.2.1.size) hK.1.size)) (by have := HL.out; (try simp only [List.length_append] at this ⊢); omega) (Nat.le_trans hB S1.out.2.2.2.1.size)).mono ?_
 rintro e w2 ⟨rfl, hw, hk⟩
 have S2 := hid (And.intro hw (And.intro (hk.row S1.out.2.1 (S1.out.1.far S1.out.2.1 (by decide)) (by decide)) (And.intro (hk.row S1.out.2.2.1 (S1.out.1.far S1.out.2.2.1 (by decide)) (by decide)) (S1.out.2.2.2.trans hk))))
 clear hw hk
 go_wp2
 (first | go_end0 | refine bodyPost_ret (results_none rfl _ _ _) rfl ?_)
 exact ⟨rfl, by have := S2.out.1; simpa [palB, List.append_assoc] using this, S2.out.2.2.2⟩
theorem zm9 : ∀ args W, (callFunc 96 args).run Tryz.prog W = .ok (.enter 96 args) W := enters_of Tryz.func96 (by kernel_rfl) rfl
theorem zql (B b : Nat) (l : List UInt8) (q : Nat) (d : LstD) (v : Value) (w : World) (h : Wtr B b l w) (hd : Ints64 [d.num, d.pri]) (hq : RowAt w q 93 (lstA (d, v))) (hlen : l.length + (lstB d).length ≤ 140737488355328) (hB : B ≤ w.heap.size) :
  Calls Tryz.prog 99 #[.pointer (some ⟨b, 0, none⟩), .pointer (some ⟨q, 0, none⟩)] w fun e w' => e = .returned (.tuple #[]) ∧ Wtr B b (l ++ (lstB d)) w' ∧ KeptW B b w w' := by
 simp only [lstA] at hq
 have HL := hid (show l.length + (intsB [d.num, d.pri]).length ≤ 140737488355328 from by
  (try simp only [lstB, List.length_append] at hlen ⊢)
  omega)
 have hbw := h.lt.2
 have hw0 : Wtr B b l w := h
 have r0 : RowAt w q 93 #[.int .i64 d.num, .int .i64 d.pri, v] := hq
 have hk0 : KeptW B b w w := KeptW.refl _ _ _
 have S0 := hid (And.intro hw0 (And.intro r0 hk0))
 clear hw0 hk0 h hlen r0 hq
 obtain ⟨x01, x02, x03, x04, x05, x06⟩ := zaa S0.out.2.1
 go_enter Tryz.func99, Tryz.ntmps99
 go_wp2_with fail
 clear x01 x02 x03 x04 x05 x06
 refine (zcr B b _ d.num d.pri _ _ (by first | (with_reducible rfl) | (simp; done)) S0.out.1 hd (by have := HL.out; (try simp only [List.length_append] at this ⊢); omega) (Nat.le_trans hB S0.out.2.2.1.size)).mono ?_
 rintro e w1 ⟨rfl, hw, hk⟩
 have S1 := hid (And.intro hw (And.intro (hk.row S0.out.2.1 (S0.out.1.far S0.out.2.1 (by decide)) (by decide)) (S0.out.2.2.trans hk)))
 clear hw hk
 go_wp2
 (first | go_end0 | refine bodyPost_ret (results_none rfl _ _ _) rfl ?_)
 exact ⟨rfl, by have := S1.out.1; simpa [lstB, List.append_assoc] using this, S1.out.2.2⟩
theorem zwz : ∀ args W, (callFunc 99 args).run Tryz.prog W = .ok (.enter 99 args) W := enters_of Tryz.func99 (by kernel_rfl) rfl
theorem zrb (B b : Nat) (l : List UInt8) (q : Nat) (d : CueD) (v1 v2 : Value) (w0 : World) (w : World) (h : Wtr B b l w) (h0 : Below w0.heap.size w0 w) (hB0 : w0.heap.size ≤ B) (hv : CueAt w0 v1 v2 d) (hd : Cue64 d) (hq : RowAt w q 64 (cueA d v1 v2)) (hlen : l.length + (cueB d).length ≤ 140737488355328) (hB : B ≤ w.heap.size) :
  Calls Tryz.prog 100 #[.pointer (some ⟨b, 0, none⟩), .pointer (some ⟨q, 0, none⟩)] w fun e w' => e = .returned (.tuple #[]) ∧ Wtr B b (l ++ (cueB d)) w' ∧ KeptW B b w w' := by
 have HV := hid hv
 obtain ⟨v1a, v1c, rfl⟩ := hv.moves.shape
 obtain ⟨v2a, v2c, rfl⟩ := hv.parts.shape
 clear hv
 simp only [cueA] at hq
 have HL := hid (show l.length + (cueB d).length ≤ 140737488355328 from by
  (try simp only [List.length_append] at hlen ⊢)
  omega)
 have hbw := h.lt.2
 have hw0 : Wtr B b l w := h
 have r0 : RowAt w q 64 #[.string d.num, .string d.lab, .slice v1a d.moves.length v1c, .slice v2a d.parts.length v2c, .bool d.block, .bool d.mark, .int .i64 d.follow, .string d.link, .int .i64 d.loops] := hq
 have hk0 : KeptW B b w w := KeptW.refl _ _ _
 have S0 := hid (And.intro hw0 (And.intro r0 hk0))
 clear hw0 hk0 h hlen r0 hq
 obtain ⟨x01, x02, x03, x04, x05, x06⟩ := zaa S0.out.2.1
 go_enter Tryz.func100, Tryz.ntmps100
 go_wp2_with fail
 clear x01 x02 x03 x04 x05 x06
 refine (zkz B b _ d _ _ _ S0.out.1 (((HV.out.moves.low (Nat.le_refl _)).kept (h0.trans (S0.out.2.2.1.mono hB0))).mono hB0) (((HV.out.parts.low (Nat.le_refl _)).kept (h0.trans (S0.out.2.2.1.mono hB0))).mono hB0) hd (by have := HL.out; (try simp only [List.length_append] at this ⊢); omega) (Nat.le_trans hB S0.out.2.2.1.size)).mono ?_
 rintro e w1 ⟨rfl, hw, hk⟩
 have S1 := hid (And.intro hw (And.intro (hk.row S0.out.2.1 (S0.out.1.far S0.out.2.1 (by decide)) (by decide)) (S0.out.2.2.trans hk)))
 clear hw hk
 go_wp2
 (first | go_end0 | refine bodyPost_ret (results_none rfl _ _ _) rfl ?_)
 exact ⟨rfl, by have := S1.out.1; simpa [List.append_assoc] using this, S1.out.2.2⟩
theorem zrz : ∀ args W, (callFunc 100 args).run Tryz.prog W = .ok (.enter 100 args) W := enters_of Tryz.func100 (by kernel_rfl) rfl
theorem zov (B b : Nat) (l : List UInt8) (q : Nat) (d : SubD) (v : Value) (w0 : World) (w : World) (h : Wtr B b l w) (h0 : Below w0.heap.size w0 w) (hB0 : w0.heap.size ≤ B) (hv : ListAt 3 gainA w0 v d.gains) (hd : Ints64 [d.num, d.pri]) (hg : ∀ g ∈ d.gains, Ints64 (gainI g)) (hq : RowAt w q 153 (subA (d, v))) (hlen : l.length + (subB d).length ≤ 140737488355328) (hB : B ≤ w.heap.size) :
  Calls Tryz.prog 101 #[.pointer (some ⟨b, 0, none⟩), .pointer (some ⟨q, 0, none⟩)] w fun e w' => e = .returned (.tuple #[]) ∧ Wtr B b (l ++ (subB d)) w' ∧ KeptW B b w w' := by
 have HV := hid hv
 obtain ⟨va, vc, rfl⟩ := hv.shape
 clear hv
 simp only [subA] at hq
 have HL := hid (show l.length + (subB d).length ≤ 140737488355328 from by
  (try simp only [List.length_append] at hlen ⊢)
  omega)
 have hbw := h.lt.2
 have hw0 : Wtr B b l w := h
 have r0 : RowAt w q 153 #[.int .i64 d.num, .int .i64 d.pri, .bool d.inh, .slice va d.gains.length vc] := hq
 have hk0 : KeptW B b w w := KeptW.refl _ _ _
 have S0 := hid (And.intro hw0 (And.intro r0 hk0))
 clear hw0 hk0 h hlen r0 hq
 obtain ⟨x01, x02, x03, x04, x05, x06⟩ := zaa S0.out.2.1
 go_enter Tryz.func101, Tryz.ntmps101
 go_wp2_with fail
 clear x01 x02 x03 x04 x05 x06
 refine (zvm B b _ d _ w0 _ S0.out.1 (h0.trans (S0.out.2.2.1.mono hB0)) hB0 HV.out hd hg (by have := HL.out; (try simp only [List.length_append] at this ⊢); omega) (Nat.le_trans hB S0.out.2.2.1.size)).mono ?_
 rintro e w1 ⟨rfl, hw, hk⟩
 have S1 := hid (And.intro hw (And.intro (hk.row S0.out.2.1 (S0.out.1.far S0.out.2.1 (by decide)) (by decide)) (S0.out.2.2.trans hk)))
 clear hw hk
 go_wp2
 (first | go_end0 | refine bodyPost_ret (results_none rfl _ _ _) rfl ?_)
 exact ⟨rfl, by have := S1.out.1; simpa [List.append_assoc] using this, S1.out.2.2⟩
theorem zs7 : ∀ args W, (callFunc 101 args).run Tryz.prog W = .ok (.enter 101 args) W := enters_of Tryz.func101 (by kernel_rfl) rfl
theorem zsv (B b : Nat) (l : List UInt8) (q : Nat) (d : EffD) (v : Value) (w0 : World) (w : World) (h : Wtr B b l w) (h0 : Below w0.heap.size w0 w) (hB0 : w0.heap.size ≤ B) (hv : ListAt 2 ptA w0 v d.wave) (hd : Ints64 [d.num, d.attr]) (hg : ∀ p ∈ d.wave, Ints64 [p.1, p.2]) (h3 : Ints64 [d.per, d.spr, d.size]) (hq : RowAt w q 183 (effA (d, v))) (hlen : l.length + (effB d).length ≤ 140737488355328) (hB : B ≤ w.heap.size) :
  Calls Tryz.prog 103 #[.pointer (some ⟨b, 0, none⟩), .pointer (some ⟨q, 0, none⟩)] w fun e w' => e = .returned (.tuple #[]) ∧ Wtr B b (l ++ (effB d)) w' ∧ KeptW B b w w' := by
 have HV := hid hv
 obtain ⟨va, vc, rfl⟩ := hv.shape
 clear hv
 simp only [effA] at hq
 have HL := hid (show l.length + (effB d).length ≤ 140737488355328 from by
  (try simp only [List.length_append] at hlen ⊢)
  omega)
 have hbw := h.lt.2
 have hw0 : Wtr B b l w := h
 have r0 : RowAt w q 183 #[.int .i64 d.num, .int .i64 d.attr, .slice va d.wave.length vc, .int .i64 d.per, .int .i64 d.spr, .int .i64 d.size] := hq
 have hk0 : KeptW B b w w := KeptW.refl _ _ _
 have S0 := hid (And.intro hw0 (And.intro r0 hk0))
 clear hw0 hk0 h hlen r0 hq
 obtain ⟨x01, x02, x03, x04, x05, x06⟩ := zaa S0.out.2.1
 go_enter Tryz.func103, Tryz.ntmps103
 go_wp2_with fail
 clear x01 x02 x03 x04 x05 x06
 refine (zlw B b _ d _ w0 _ S0.out.1 (h0.trans (S0.out.2.2.1.mono hB0)) hB0 HV.out hd hg h3 (by have := HL.out; (try simp only [List.length_append] at this ⊢); omega) (Nat.le_trans hB S0.out.2.2.1.size)).mono ?_
 rintro e w1 ⟨rfl, hw, hk⟩
 have S1 := hid (And.intro hw (And.intro (hk.row S0.out.2.1 (S0.out.1.far S0.out.2.1 (by decide)) (by decide)) (S0.out.2.2.trans hk)))
 clear hw hk
 go_wp2
 (first | go_end0 | refine bodyPost_ret (results_none rfl _ _ _) rfl ?_)
 exact ⟨rfl, by have := S1.out.1; simpa [List.append_assoc] using this, S1.out.2.2⟩
theorem ztq : ∀ args W, (callFunc 103 args).run Tryz.prog W = .ok (.enter 103 args) W := enters_of Tryz.func103 (by kernel_rfl) rfl
theorem Tryz.zero_rd (w : World) : (zeroValue 104).run Tryz.prog w = .ok .nilFunc w := by kernel_rfl
theorem zj4 (B b : Nat) (W : World) (h : W.heap[b]? = some (.map (kindsM B) 11)) : (Instr.lookup 102 (.map (some b)) (.int .i64 1) true).run Tryz.prog W = .ok (.tuple #[.func (.func 121) #[.pointer (some ⟨B, 0, none⟩)] #[], .bool true]) W :=
 zw5 1 b (some (0, .func (.func 121) #[.pointer (some ⟨B, 0, none⟩)] #[])) .nilFunc (Tryz.zero_rd _) Tryz.underlying102 Tryz.underlying3 h rfl true
theorem zu0 (g : Nat) (w : World) (hg : RowAt w g 77 #[.int .i64 1, .string exOld]) :
  Calls Tryz.prog 19 #[.slice (some ⟨g, 0, none⟩) 1 1] w fun e w' => e = .returned (.tuple #[.agg #[.string ⟨#[]⟩, .slice none 0 0, .slice none 0 0, .slice none 0 0, .slice none 0 0, .slice none 0 0, .slice none 0 0, .slice none 0 0, .slice none 0 0], .int .i64 0, .int .i64 18]) ∧ Below w.heap.size w w' := by
 have hmf : ∀ (fn : Fn) (first cap : Array Value) (w : World), (Instr.makeFunc fn first cap).run Tryz.prog w = .ok (.func fn first cap) w := fun _ _ _ _ => rfl
 have hst : ∀ (W : World) (a : Addr) (fn : Fn) (x y : Array Value), (store a (.func fn x y)).run Tryz.prog W = stored Tryz.prog W a (.func fn x y) .plain := fun W a fn x y => run_store Tryz.prog W a _ .plain rfl
 obtain ⟨W0, hW0⟩ : ∃ W, ((w.alloc (.cells #[.string ⟨#[]⟩, .slice none 0 0, .slice none 0 0, .slice none 0 0, .slice none 0 0, .slice none 0 0, .slice none 0 0, .slice none 0 0, .slice none 0 0] 31)).alloc (.cells #[.string ⟨#[]⟩, .slice none 0 0, .slice none 0 0, .slice none 0 0, .slice none 0 0, .slice none 0 0, .slice none 0 0, .slice none 0 0, .slice none 0 0, .int .i64 0] 101)) = W := ⟨_, rfl⟩
 have z0 : W0.heap.size = w.heap.size + 2 := by rw [← hW0]; simp
 have g0 : RowAt W0 g 77 #[.int .i64 1, .string exOld] := by rw [← hW0]; exact RowAt.alloc (RowAt.alloc hg _) _
 have s0 : RowAt W0 w.heap.size 31 #[.string ⟨#[]⟩, .slice none 0 0, .slice none 0 0, .slice none 0 0, .slice none 0 0, .slice none 0 0, .slice none 0 0, .slice none 0 0, .slice none 0 0] := by rw [← hW0]; exact RowAt.alloc (RowAt.new _ _ _) _
 have b0 : RowAt W0 (w.heap.size + 1) 101 #[.string ⟨#[]⟩, .slice none 0 0, .slice none 0 0, .slice none 0 0, .slice none 0 0, .slice none 0 0, .slice none 0 0, .slice none 0 0, .slice none 0 0, .int .i64 0] := by rw [← hW0]; exact RowAt.mk (by simp) rfl
 have B0 : Below w.heap.size w W0 := by rw [← hW0]; exact bel
 have C1 := hid (zia (w.heap.size + 1) W0)
 obtain ⟨W1, hW1⟩ : ∃ W, W0.alloc (.map (kindsM (w.heap.size + 1)) 11) = W := ⟨_, rfl⟩
 have m1 : W1.heap[W0.heap.size]? = some (.map (kindsM (w.heap.size + 1)) 11) := by rw [← hW1]; exact heap_alloc_new _ _
 have k1 : Below W0.heap.size W0 W1 := by rw [← hW1]; exact bel
 have z1 : W1.heap.size = w.heap.size + 3 := by rw [← hW1]; simp [z0]
 rw [hW1] at C1
 have g1 := g0.run k1
 have s1 := s0.run k1
 have b1 := b0.run k1
 have B1 := B0.trans (k1.mono B0.size)
 have hl := fun (W : World) (hb : Below W1.heap.size W1 W) => zj4 (w.heap.size + 1) W0.heap.size W ((hb.block _ (lt_of_block m1)).trans m1)
 have H1 := hid (And.intro g1 (And.intro s1 (And.intro b1 (And.intro B1 hl))))
 obtain ⟨x1, x2, x3, x4, x5, x6⟩ := zaa g1
 have hl1 := hl (W1.alloc (.cells #[.int .i64 1, .string exOld] 77)) bel
 have Z := hid (And.intro z0 z1)
 clear z0 z1
 have C2 := hid (fun W => zh6 0 1 W)
 clear hW1 g0 s0 b0 B0 g1 s1 b1 B1 hl k1 m1 hg
 go_enter Tryz.func19, Tryz.ntmps19
 go_wp2_with fail
 clear hW0
 refine C1.out.mono ?_
 rintro e w1 ⟨rfl, rfl⟩
 go_wp2_with fail
 refine wp_loop_rounds 2 ?_
 rw [rounds_succ]
 go_wp2_with fail
 refine (C2.out _).mono ?_
 rintro e w2 ⟨rfl, rfl⟩
 have hf : folB 0 1 = true := rfl
 rw [hf]
 have b2 := H1.out.2.2.1
 obtain ⟨W3, hW3⟩ : ∃ W, ((w1.alloc (.cells #[.int .i64 1, .string exOld] 77)).alloc (.cells #[.func (.func 121) #[.pointer (some ⟨w.heap.size + 1, 0, none⟩)] #[]] 104)) = W := ⟨_, rfl⟩
 have e3 : RowAt W3 w1.heap.size 77 #[.int .i64 1, .string exOld] := by rw [← hW3]; exact RowAt.alloc (RowAt.new _ _ _) _
 have f3 : RowAt W3 (w1.heap.size + 1) 104 #[.func (.func 121) #[.pointer (some ⟨w.heap.size + 1, 0, none⟩)] #[]] := by rw [← hW3]; exact RowAt.mk (by simp) rfl
 have b3 := b2.run (show Below w1.heap.size w1 W3 from by rw [← hW3]; exact bel)
 have B3 := hid (show Below w1.heap.size w1 W3 from by rw [← hW3]; exact bel)
 obtain ⟨y1, y2, y3, y4, y5, y6⟩ := zaa b3
 obtain ⟨k1, k2, k3, k4, k5, k6⟩ := zaa e3
 rw [hW3]
 have HR := hid (And.intro e3 (And.intro f3 b3))
 clear hW3 b2 b3 f3 e3 x1 x2 x3 x4 x5 x6
 go_wp2_with fail
 have e4 := RowAt.far1 (i := 9) (u := .int .i64 0) HR.out.1 (show ¬ w1.heap.size = w.heap.size + 1 from by have := Z.out; omega)
 have f4 := RowAt.far1 (i := 9) (u := .int .i64 0) HR.out.2.1 (show ¬ w1.heap.size + 1 = w.heap.size + 1 from by have := Z.out; omega)
 have b4 : RowAt (W3.setCell ⟨w.heap.size + 1, 9, none⟩ (.int .i64 0)) (w.heap.size + 1) 101 #[.string ⟨#[]⟩, .slice none 0 0, .slice none 0 0, .slice none 0 0, .slice none 0 0, .slice none 0 0, .slice none 0 0, .slice none 0 0, .slice none 0 0, .int .i64 0] := RowAt.set HR.out.2.2 rfl
 have s4 := RowAt.far1 (i := 9) (u := .int .i64 0) (H1.out.2.1.run B3.out) (show ¬ w.heap.size = w.heap.size + 1 from by omega)
 have B4 : Below w.heap.size w (W3.setCell ⟨w.heap.size + 1, 9, none⟩ (.int .i64 0)) := za0 (H1.out.2.2.2.1.trans (B3.out.mono H1.out.2.2.2.1.size)) (by omega)
 have hz4 : (W3.setCell ⟨w.heap.size + 1, 9, none⟩ (.int .i64 0)).heap.size ≥ w.heap.size + 3 := by have := B3.out.size; have := Z.out; simp; omega
 clear hst k1 k2 k3 k4 k5 k6 y1 y2 y3 y4 y5 y6
 generalize W3.setCell ⟨w.heap.size + 1, 9, none⟩ (.int .i64 0) = W4 at e4 f4 b4 s4 B4 hz4 ⊢
 have n4 : RowAt (W4.alloc (.cells #[.int .i64 0] 35)) W4.heap.size 35 #[.int .i64 0] := RowAt.new _ _ _
 have C5 := zk5 w1.heap.size (w1.heap.size + 1) (w.heap.size + 1) 101 1 exOld #[.string ⟨#[]⟩, .slice none 0 0, .slice none 0 0, .slice none 0 0, .slice none 0 0, .slice none 0 0, .slice none 0 0, .slice none 0 0, .slice none 0 0, .int .i64 0] (W4.alloc (.cells #[.int .i64 0] 35)) (RowAt.alloc e4 _) (RowAt.alloc f4 _) (RowAt.alloc b4 _) (by simp) (by decide)
 rw [zs3] at C5
 refine (zrw 18 50 _ W4 (fun wx => Upd (w.heap.size + 1) W4 wx) zkg (C5.mono fun e w' h => ⟨h.1, RowAt.upd n4 h.2 (by omega), zji (ze6 (za5 _ _) _) h.2⟩)).mono ?_
 rintro e w5 ⟨rfl, wx, hu5, hu6⟩
 have s5 := RowAt.upd (RowAt.upd s4 hu5 (by omega)) hu6 (by omega)
 have B5 : Below w.heap.size w w5 := zaw (zaw B4 hu5 (by omega)) hu6 (by omega)
 have H5 := hid (And.intro s5 B5)
 obtain ⟨y1, y2, y3, y4, y5, y6⟩ := zaa s5
 clear hu5 hu6 s5 B5 s4 B4 b4 e4 f4 n4 C5
 go_wp2
 have hF := RowAt.nine (v0 := .string ⟨#[]⟩) (v1 := .slice none 0 0) (v2 := .slice none 0 0) (v3 := .slice none 0 0) (v4 := .slice none 0 0) (v5 := .slice none 0 0) (v6 := .slice none 0 0) (v7 := .slice none 0 0) (v8 := .slice none 0 0) H5.out.1
 obtain ⟨Wz, hWz⟩ : ∃ W, (((((((((w5.setCell ⟨w.heap.size, 0, none⟩ (.string ⟨#[]⟩)).setCell ⟨w.heap.size, 1, none⟩ (.slice none 0 0)).setCell ⟨w.heap.size, 2, none⟩ (.slice none 0 0)).setCell ⟨w.heap.size, 3, none⟩ (.slice none 0 0)).setCell ⟨w.heap.size, 4, none⟩ (.slice none 0 0)).setCell ⟨w.heap.size, 5, none⟩ (.slice none 0 0)).setCell ⟨w.heap.size, 6, none⟩ (.slice none 0 0)).setCell ⟨w.heap.size, 7, none⟩ (.slice none 0 0)).setCell ⟨w.heap.size, 8, none⟩ (.slice none 0 0)) = W := ⟨_, rfl⟩
 have hB : Below w.heap.size w Wz := by rw [← hWz]; exact zaw H5.out.2 ze8 (Nat.le_refl _)
 rw [hWz] at hF ⊢
 have f0 := zak hF 0
 have f1 := zak hF 1
 have f2 := zak hF 2
 have f3 := zak hF 3
 have f4 := zak hF 4
 have f5 := zak hF 5
 have f6 := zak hF 6
 have f7 := zak hF 7
 have f8 := zak hF 8
 simp only [List.getElem?_toArray] at f0 f1 f2 f3 f4 f5 f6 f7 f8
 refine bodyPost_ret (v := .tuple #[.agg #[.string ⟨#[]⟩, .slice none 0 0, .slice none 0 0, .slice none 0 0, .slice none 0 0, .slice none 0 0, .slice none 0 0, .slice none 0 0, .slice none 0 0], .int .i64 0, .int .i64 18]) ?_ rfl ⟨rfl, hB⟩
 simp [results, Tryz.results19, go_sem, f0, f1, f2, f3, f4, f5, f6, f7, f8]
end Go.Proofs.YtjeigphhepngmaaGreatDoor
