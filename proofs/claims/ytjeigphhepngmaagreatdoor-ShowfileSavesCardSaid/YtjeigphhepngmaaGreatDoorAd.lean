/- -/
import Derived.Test.YtjeigphhepngmaaGreatDoorAp
import Derived.Test.YtjeigphhepngmaaGreatDoorJb
namespace Go.Proofs.YtjeigphhepngmaaGreatDoor
open Go.RowKit
open Go.Lib (hid)
set_option maxHeartbeats 8000000
set_option linter.unusedSimpArgs false
set_option linter.unusedVariables false
set_option maxRecDepth 100000
def ptI (d : Pt) : List Int := [d.1, d.2]
theorem zfh (B b : Nat) (l : List UInt8) (n : Int) (w : World) (g : Nat) (hg : w.heap.size = g) (h : Wtr B b l w) (hi : -9223372036854775808 ≤ n ∧ n ≤ 9223372036854775807) (hlen : l.length + (intB n).length ≤ 140737488355328) (hB : B ≤ w.heap.size) :
  Calls Tryz.prog 85 #[.pointer (some ⟨b, 0, none⟩), .slice (some ⟨g, 0, none⟩) 1 1] (w.alloc (.cells #[.int .i64 n] 3)) fun e w' => e = .returned (.tuple #[]) ∧ Wtr B b (l ++ intB n) w' ∧ KeptW B b w w' := by
 subst hg
 exact za9 B b l n w h hi hlen hB
theorem zcr (B b : Nat) (l : List UInt8) (n0 n1 : Int) (w : World) (g : Nat) (hg : w.heap.size = g) (h : Wtr B b l w) (hi : Ints64 [n0, n1]) (hlen : l.length + (intsB [n0, n1]).length ≤ 140737488355328) (hB : B ≤ w.heap.size) :
  Calls Tryz.prog 85 #[.pointer (some ⟨b, 0, none⟩), .slice (some ⟨g, 0, none⟩) 2 2] (w.alloc (.cells #[.int .i64 n0, .int .i64 n1] 3)) fun e w' => e = .returned (.tuple #[]) ∧ Wtr B b (l ++ intsB [n0, n1]) w' ∧ KeptW B b w w' := by
 subst hg
 refine (zb5 B b w.heap.size l [n0, n1] _ (h.alloc _) (RowAt.new _ _ _) hi (by simp) (by simp) hlen (by simp; omega)).mono ?_
 rintro e w' ⟨rfl, h1, h2⟩
 exact ⟨rfl, h1, ((KeptW.refl _ _ _).alloc hB _).trans h2⟩
theorem zjn (B b : Nat) (l : List UInt8) (n0 n1 n2 : Int) (w : World) (g : Nat) (hg : w.heap.size = g) (h : Wtr B b l w) (hi : Ints64 [n0, n1, n2]) (hlen : l.length + (intsB [n0, n1, n2]).length ≤ 140737488355328) (hB : B ≤ w.heap.size) :
  Calls Tryz.prog 85 #[.pointer (some ⟨b, 0, none⟩), .slice (some ⟨g, 0, none⟩) 3 3] (w.alloc (.cells #[.int .i64 n0, .int .i64 n1, .int .i64 n2] 3)) fun e w' => e = .returned (.tuple #[]) ∧ Wtr B b (l ++ intsB [n0, n1, n2]) w' ∧ KeptW B b w w' := by
 subst hg
 refine (zb5 B b w.heap.size l [n0, n1, n2] _ (h.alloc _) (RowAt.new _ _ _) hi (by simp) (by simp) hlen (by simp; omega)).mono ?_
 rintro e w' ⟨rfl, h1, h2⟩
 exact ⟨rfl, h1, ((KeptW.refl _ _ _).alloc hB _).trans h2⟩
theorem zxc (B b : Nat) (l : List UInt8) (n0 n1 n2 n3 n4 n5 n6 n7 : Int) (w : World) (g : Nat) (hg : w.heap.size = g) (h : Wtr B b l w) (hi : Ints64 [n0, n1, n2, n3, n4, n5, n6, n7]) (hlen : l.length + (intsB [n0, n1, n2, n3, n4, n5, n6, n7]).length ≤ 140737488355328) (hB : B ≤ w.heap.size) :
  Calls Tryz.prog 85 #[.pointer (some ⟨b, 0, none⟩), .slice (some ⟨g, 0, none⟩) 8 8] (w.alloc (.cells #[.int .i64 n0, .int .i64 n1, .int .i64 n2, .int .i64 n3, .int .i64 n4, .int .i64 n5, .int .i64 n6, .int .i64 n7] 3)) fun e w' => e = .returned (.tuple #[]) ∧ Wtr B b (l ++ intsB [n0, n1, n2, n3, n4, n5, n6, n7]) w' ∧ KeptW B b w w' := by
 subst hg
 refine (zb5 B b w.heap.size l [n0, n1, n2, n3, n4, n5, n6, n7] _ (h.alloc _) (RowAt.new _ _ _) hi (by simp) (by simp) hlen (by simp; omega)).mono ?_
 rintro e w' ⟨rfl, h1, h2⟩
 exact ⟨rfl, h1, ((KeptW.refl _ _ _).alloc hB _).trans h2⟩
theorem zmb (B b p : Nat) (l : List UInt8) (m : Pt) (w : World) (h : Wtr B b l w) (hp : AtP w p b) (hi : Ints64 (ptI m)) (hlen : l.length + (ptB m).length ≤ 140737488355328) (hB : B ≤ w.heap.size) :
  Calls Tryz.prog 201 #[.agg #[.int .i64 m.1, .int .i64 m.2], .pointer (some ⟨p, 0, none⟩)] w fun e w' => e = .returned (.tuple #[]) ∧ Wtr B b (l ++ ptB m) w' ∧ KeptW B b w w' := by
 have C := hid (fun (W : World) (g : Nat) (hg : RowAt W g 3 (intA (ptI m))) (hb : Below w.heap.size w W) => zb5 B b g l (ptI m) W (h.run hb) hg hi (by simp [ptI]) (by simp [ptI]) hlen (Nat.le_trans hB hb.size))
 obtain ⟨x1, x2, x3, x4, x5, x6⟩ := zaa hp
 clear hi hlen
 go_enter Tryz.func201, Tryz.ntmps201
 go_wp2_with fail
 refine (C.out _ _ (RowAt.mk (by simp) rfl) bel).mono ?_
 rintro e w1 ⟨rfl, hw1, hk1⟩
 go_wp2
 (first | go_end0 | refine bodyPost_ret (results_none rfl _ _ _) rfl ?_)
 exact ⟨rfl, hw1, (((KeptW.refl _ _ _).alloc hB _).alloc (by simp; omega) _).trans hk1⟩
theorem zso : ∀ args W, (callFunc 201 args).run Tryz.prog W = .ok (.enter 201 args) W := enters_of Tryz.func201 (by kernel_rfl) rfl
theorem zyn (B b p : Nat) (l : List UInt8) (m : HueD) (w : World) (h : Wtr B b l w) (hp : AtP w p b) (hi : Ints64 (hueI m)) (hlen : l.length + (hueB m).length ≤ 140737488355328) (hB : B ≤ w.heap.size) :
  Calls Tryz.prog 98 #[.agg #[.int .i64 m.ch, .int .i64 m.at_, .int .i64 m.lev], .pointer (some ⟨p, 0, none⟩)] w fun e w' => e = .returned (.tuple #[]) ∧ Wtr B b (l ++ hueB m) w' ∧ KeptW B b w w' := by
 have C := hid (fun (W : World) (g : Nat) (hg : RowAt W g 3 (intA (hueI m))) (hb : Below w.heap.size w W) => zb5 B b g l (hueI m) W (h.run hb) hg hi (by simp [hueI]) (by simp [hueI]) hlen (Nat.le_trans hB hb.size))
 obtain ⟨x1, x2, x3, x4, x5, x6⟩ := zaa hp
 clear hi hlen
 go_enter Tryz.func98, Tryz.ntmps98
 go_wp2_with fail
 refine (C.out _ _ (RowAt.mk (by simp) rfl) bel).mono ?_
 rintro e w1 ⟨rfl, hw1, hk1⟩
 go_wp2
 (first | go_end0 | refine bodyPost_ret (results_none rfl _ _ _) rfl ?_)
 exact ⟨rfl, hw1, (((KeptW.refl _ _ _).alloc hB _).alloc (by simp; omega) _).trans hk1⟩
theorem zxw : ∀ args W, (callFunc 98 args).run Tryz.prog W = .ok (.enter 98 args) W := enters_of Tryz.func98 (by kernel_rfl) rfl
theorem zye (B b p : Nat) (l : List UInt8) (m : GainD) (w : World) (h : Wtr B b l w) (hp : AtP w p b) (hi : Ints64 (gainI m)) (hlen : l.length + (gainB m).length ≤ 140737488355328) (hB : B ≤ w.heap.size) :
  Calls Tryz.prog 207 #[.agg #[.int .i64 m.ch, .int .i64 m.at_, .int .i64 m.lev], .pointer (some ⟨p, 0, none⟩)] w fun e w' => e = .returned (.tuple #[]) ∧ Wtr B b (l ++ gainB m) w' ∧ KeptW B b w w' := by
 have C := hid (fun (W : World) (g : Nat) (hg : RowAt W g 3 (intA (gainI m))) (hb : Below w.heap.size w W) => zb5 B b g l (gainI m) W (h.run hb) hg hi (by simp [gainI]) (by simp [gainI]) hlen (Nat.le_trans hB hb.size))
 obtain ⟨x1, x2, x3, x4, x5, x6⟩ := zaa hp
 clear hi hlen
 go_enter Tryz.func207, Tryz.ntmps207
 go_wp2_with fail
 refine (C.out _ _ (RowAt.mk (by simp) rfl) bel).mono ?_
 rintro e w1 ⟨rfl, hw1, hk1⟩
 go_wp2
 (first | go_end0 | refine bodyPost_ret (results_none rfl _ _ _) rfl ?_)
 exact ⟨rfl, hw1, (((KeptW.refl _ _ _).alloc hB _).alloc (by simp; omega) _).trans hk1⟩
theorem zs2 : ∀ args W, (callFunc 207 args).run Tryz.prog W = .ok (.enter 207 args) W := enters_of Tryz.func207 (by kernel_rfl) rfl
theorem zpk (B b : Nat) (l : List UInt8) (p : Nat) (n : Int) (w : World) (h : Wtr B b l w) (hp : AtP w p b) (hi : -9223372036854775808 ≤ n ∧ n ≤ 9223372036854775807) (hlen : l.length + (intB n).length ≤ 140737488355328) (hB : B ≤ w.heap.size) :
  Calls Tryz.prog 95 #[.int .i64 n, .pointer (some ⟨p, 0, none⟩)] w fun e w' => e = .returned (.tuple #[]) ∧ Wtr B b (l ++ (intB n)) w' ∧ KeptW B b w w' := by
 have HL := hid (show l.length + (intB n).length ≤ 140737488355328 from by
  (try simp only [List.length_append] at hlen ⊢)
  omega)
 have hbw := h.lt.2
 have hw0 : Wtr B b l w := h
 have r0 : RowAt w p 131 #[.pointer (some ⟨b, 0, none⟩)] := hp
 have hk0 : KeptW B b w w := KeptW.refl _ _ _
 have S0 := hid (And.intro hw0 (And.intro r0 hk0))
 clear hw0 hk0 h hlen r0 hp
 obtain ⟨x01, x02, x03, x04, x05, x06⟩ := zaa S0.out.2.1
 go_enter Tryz.func95, Tryz.ntmps95
 go_wp2_with fail
 clear x01 x02 x03 x04 x05 x06
 refine (zfh B b _ n _ _ (by first | (with_reducible rfl) | (simp; done)) S0.out.1 hi (by have := HL.out; (try simp only [List.length_append] at this ⊢); omega) (Nat.le_trans hB S0.out.2.2.1.size)).mono ?_
 rintro e w1 ⟨rfl, hw, hk⟩
 have S1 := hid (And.intro hw (And.intro (hk.row S0.out.2.1 (S0.out.1.far S0.out.2.1 (by decide)) (by decide)) (S0.out.2.2.trans hk)))
 clear hw hk
 go_wp2
 (first | go_end0 | refine bodyPost_ret (results_none rfl _ _ _) rfl ?_)
 exact ⟨rfl, by have := S1.out.1; simpa [List.append_assoc] using this, S1.out.2.2⟩
theorem zrl : ∀ args W, (callFunc 95 args).run Tryz.prog W = .ok (.enter 95 args) W := enters_of Tryz.func95 (by kernel_rfl) rfl
theorem zpq (B b K : Nat) (x : Value) (g : Pt → List UInt8) (l : List UInt8) (v : Value) (xs : List Pt) (w0 w : World) (h : Wtr B b l w) (h0 : Below w0.heap.size w0 w) (hB0 : w0.heap.size ≤ B) (hv : ListAt 2 ptA w0 v xs)
  (he : ∀ args W, (callFunc K args).run Tryz.prog W = .ok (.enter K args) W)
  (F : ∀ d ∈ xs, ∀ (pre : List UInt8) (W : World), Wtr B b pre W → KeptW B b w W → pre.length + (g d).length ≤ 140737488355328 → Calls Tryz.prog K #[.agg #[.int .i64 d.1, .int .i64 d.2], x] W fun e w' => e = .returned (.tuple #[]) ∧ Wtr B b (pre ++ g d) w' ∧ KeptW B b W w')
  (hlen : l.length + (intB xs.length).length + (xs.flatMap g).length ≤ 140737488355328) (hB : B ≤ w.heap.size) :
  Calls Tryz.prog 200 #[.pointer (some ⟨b, 0, none⟩), v, .func (.func K) #[] #[x]] w fun e w' => e = .returned (.tuple #[]) ∧ Wtr B b (l ++ intB xs.length ++ xs.flatMap g) w' ∧ KeptW B b w w' := by
 obtain ⟨a, cap, rfl⟩ := hv.shape
 have hml := hv.few
 have C := hid (za9 B b l xs.length w h (by omega) (by omega) hB)
 have HF := hid F
 have HL := hid hlen
 have HP := hid (And.intro hv (And.intro h0 (And.intro hB0 hB)))
 have h3 : (xs.length : Int) ≤ 140737488351232 := by omega
 clear F hlen h hv h0 hB0
 go_enter Tryz.func200, Tryz.ntmps200
 go_wp2_with fail
 refine C.out.mono ?_
 rintro e w1 ⟨rfl, hw1, hk1⟩
 have HH := hid (And.intro hw1 hk1)
 clear hw1 hk1
 go_wp2
 go_loopw [7, 15] (fun _ i wr => ∃ k : Nat, k ≤ xs.length ∧ i = .int .i64 k ∧ Hid (Wtr B b (l ++ intB xs.length ++ (xs.take k).flatMap g) wr ∧ KeptW B b w wr)) (fun _ i _ => xs.length - (intOf i).toNat)
 case atStart => exact ⟨0, Nat.zero_le _, rfl, hid ⟨by simpa using HH.out.1, HH.out.2⟩⟩
 case round =>
  obtain ⟨k, hk, rfl, hh⟩ := hrel
  by_cases hlt : k < xs.length
  · have hlt3 : (k : Int) < (xs.length : Int) := by omega
    have hbr : Below w0.heap.size w0 wr := HP.out.2.1.trans (hh.out.2.1.mono HP.out.2.2.1)
    have hBr : B ≤ wr.heap.size := Nat.le_trans HP.out.2.2.2 hh.out.2.1.size
    obtain ⟨d, hds⟩ : ∃ d, xs[k]? = some d := ⟨_, List.getElem?_eq_getElem hlt⟩
    obtain ⟨g0, off, cap', he0, hg0, hcr⟩ := HP.out.1.at_ (by decide) hds
    cases he0
    have hdm := List.mem_of_getElem? hds
    have hlen2 : (l ++ intB xs.length ++ (xs.take k).flatMap g).length + (g d).length ≤ 140737488355328 := by
     have := zaq (f := g) hds
     have := HL.out
     simp only [List.length_append]
     omega
    have C2 := hid (fun (W : World) (hW : Wtr B b (l ++ intB xs.length ++ (xs.take k).flatMap g) W) (hK : KeptW B b w W) => HF.out d hdm _ W hW hK hlen2)
    have HT := hid (zaf hds)
    have hg0r : g0 < wr.heap.size := Nat.lt_of_lt_of_le hg0 (by have := hbr.size; omega)
    have e0 : wr.cell? ⟨g0, off + k * 2, none⟩ = some (.int .i64 d.1) := hcr wr hbr 0 (by decide)
    have e1 : wr.cell? ⟨g0, off + k * 2 + 1, none⟩ = some (.int .i64 d.2) := hcr wr hbr 1 (by decide)
    clear hcr hdm hds hlen2 hbr
    go_wp2_with fail
    refine (C2.out _ (hh.out.1.alloc _) (hh.out.2.alloc hBr _)).mono ?_
    rintro e w2 ⟨rfl, hw2, hk2⟩
    have HN := hid (And.intro hw2 ((hh.out.2.alloc hBr _).trans hk2))
    clear hw2 hk2
    go_wp2
    go_roundw
    case rel => exact ⟨k + 1, by omega, by go_num, hid ⟨by rw [HT.out, List.flatMap_append, ← List.append_assoc]; simpa using HN.out.1, HN.out.2⟩⟩
    case measure => simp [intOf]; omega
  obtain rfl : k = xs.length := by omega
  have HE := hid (show Wtr B b (l ++ intB xs.length ++ xs.flatMap g) wr from by have := hh.out.1; rwa [List.take_length] at this)
  go_wp2
  (first | go_end0 | refine bodyPost_ret (results_none rfl _ _ _) rfl ?_)
  exact ⟨rfl, HE.out, hh.out.2⟩
theorem zpl (B b K : Nat) (x : Value) (g : SlotD → List UInt8) (l : List UInt8) (v : Value) (xs : List SlotD) (w0 w : World) (h : Wtr B b l w) (h0 : Below w0.heap.size w0 w) (hB0 : w0.heap.size ≤ B) (hv : ListAt 3 slotA w0 v xs)
  (he : ∀ args W, (callFunc K args).run Tryz.prog W = .ok (.enter K args) W)
  (F : ∀ d ∈ xs, ∀ (pre : List UInt8) (W : World), Wtr B b pre W → KeptW B b w W → pre.length + (g d).length ≤ 140737488355328 → Calls Tryz.prog K #[.agg #[.string d.name, .int .i64 d.lo, .int .i64 d.hi], x] W fun e w' => e = .returned (.tuple #[]) ∧ Wtr B b (pre ++ g d) w' ∧ KeptW B b W w')
  (hlen : l.length + (intB xs.length).length + (xs.flatMap g).length ≤ 140737488355328) (hB : B ≤ w.heap.size) :
  Calls Tryz.prog 204 #[.pointer (some ⟨b, 0, none⟩), v, .func (.func K) #[] #[x]] w fun e w' => e = .returned (.tuple #[]) ∧ Wtr B b (l ++ intB xs.length ++ xs.flatMap g) w' ∧ KeptW B b w w' := by
 obtain ⟨a, cap, rfl⟩ := hv.shape
 have hml := hv.few
 have C := hid (za9 B b l xs.length w h (by omega) (by omega) hB)
 have HF := hid F
 have HL := hid hlen
 have HP := hid (And.intro hv (And.intro h0 (And.intro hB0 hB)))
 have h3 : (xs.length : Int) ≤ 140737488351232 := by omega
 clear F hlen h hv h0 hB0
 go_enter Tryz.func204, Tryz.ntmps204
 go_wp2_with fail
 refine C.out.mono ?_
 rintro e w1 ⟨rfl, hw1, hk1⟩
 have HH := hid (And.intro hw1 hk1)
 clear hw1 hk1
 go_wp2
 go_loopw [7, 15] (fun _ i wr => ∃ k : Nat, k ≤ xs.length ∧ i = .int .i64 k ∧ Hid (Wtr B b (l ++ intB xs.length ++ (xs.take k).flatMap g) wr ∧ KeptW B b w wr)) (fun _ i _ => xs.length - (intOf i).toNat)
 case atStart => exact ⟨0, Nat.zero_le _, rfl, hid ⟨by simpa using HH.out.1, HH.out.2⟩⟩
 case round =>
  obtain ⟨k, hk, rfl, hh⟩ := hrel
  by_cases hlt : k < xs.length
  · have hlt3 : (k : Int) < (xs.length : Int) := by omega
    have hbr : Below w0.heap.size w0 wr := HP.out.2.1.trans (hh.out.2.1.mono HP.out.2.2.1)
    have hBr : B ≤ wr.heap.size := Nat.le_trans HP.out.2.2.2 hh.out.2.1.size
    obtain ⟨d, hds⟩ : ∃ d, xs[k]? = some d := ⟨_, List.getElem?_eq_getElem hlt⟩
    obtain ⟨g0, off, cap', he0, hg0, hcr⟩ := HP.out.1.at_ (by decide) hds
    cases he0
    have hdm := List.mem_of_getElem? hds
    have hlen2 : (l ++ intB xs.length ++ (xs.take k).flatMap g).length + (g d).length ≤ 140737488355328 := by
     have := zaq (f := g) hds
     have := HL.out
     simp only [List.length_append]
     omega
    have C2 := hid (fun (W : World) (hW : Wtr B b (l ++ intB xs.length ++ (xs.take k).flatMap g) W) (hK : KeptW B b w W) => HF.out d hdm _ W hW hK hlen2)
    have HT := hid (zaf hds)
    have hg0r : g0 < wr.heap.size := Nat.lt_of_lt_of_le hg0 (by have := hbr.size; omega)
    have e0 : wr.cell? ⟨g0, off + k * 3, none⟩ = some (.string d.name) := hcr wr hbr 0 (by decide)
    have e1 : wr.cell? ⟨g0, off + k * 3 + 1, none⟩ = some (.int .i64 d.lo) := hcr wr hbr 1 (by decide)
    have e2 : wr.cell? ⟨g0, off + k * 3 + 2, none⟩ = some (.int .i64 d.hi) := hcr wr hbr 2 (by decide)
    clear hcr hdm hds hlen2 hbr
    go_wp2_with fail
    refine (C2.out _ (hh.out.1.alloc _) (hh.out.2.alloc hBr _)).mono ?_
    rintro e w2 ⟨rfl, hw2, hk2⟩
    have HN := hid (And.intro hw2 ((hh.out.2.alloc hBr _).trans hk2))
    clear hw2 hk2
    go_wp2
    go_roundw
    case rel => exact ⟨k + 1, by omega, by go_num, hid ⟨by rw [HT.out, List.flatMap_append, ← List.append_assoc]; simpa using HN.out.1, HN.out.2⟩⟩
    case measure => simp [intOf]; omega
  obtain rfl : k = xs.length := by omega
  have HE := hid (show Wtr B b (l ++ intB xs.length ++ xs.flatMap g) wr from by have := hh.out.1; rwa [List.take_length] at this)
  go_wp2
  (first | go_end0 | refine bodyPost_ret (results_none rfl _ _ _) rfl ?_)
  exact ⟨rfl, HE.out, hh.out.2⟩
theorem zxl (B b K : Nat) (x : Value) (g : Int → List UInt8) (l : List UInt8) (v : Value) (xs : List Int) (w0 w : World) (h : Wtr B b l w) (h0 : Below w0.heap.size w0 w) (hB0 : w0.heap.size ≤ B) (hv : ListAt 1 intC w0 v xs)
  (he : ∀ args W, (callFunc K args).run Tryz.prog W = .ok (.enter K args) W)
  (F : ∀ d ∈ xs, ∀ (pre : List UInt8) (W : World), Wtr B b pre W → KeptW B b w W → pre.length + (g d).length ≤ 140737488355328 → Calls Tryz.prog K #[.int .i64 d, x] W fun e w' => e = .returned (.tuple #[]) ∧ Wtr B b (pre ++ g d) w' ∧ KeptW B b W w')
  (hlen : l.length + (intB xs.length).length + (xs.flatMap g).length ≤ 140737488355328) (hB : B ≤ w.heap.size) :
  Calls Tryz.prog 94 #[.pointer (some ⟨b, 0, none⟩), v, .func (.func K) #[] #[x]] w fun e w' => e = .returned (.tuple #[]) ∧ Wtr B b (l ++ intB xs.length ++ xs.flatMap g) w' ∧ KeptW B b w w' := by
 obtain ⟨a, cap, rfl⟩ := hv.shape
 have hml := hv.few
 have C := hid (za9 B b l xs.length w h (by omega) (by omega) hB)
 have HF := hid F
 have HL := hid hlen
 have HP := hid (And.intro hv (And.intro h0 (And.intro hB0 hB)))
 have h3 : (xs.length : Int) ≤ 140737488351232 := by omega
 clear F hlen h hv h0 hB0
 go_enter Tryz.func94, Tryz.ntmps94
 go_wp2_with fail
 refine C.out.mono ?_
 rintro e w1 ⟨rfl, hw1, hk1⟩
 have HH := hid (And.intro hw1 hk1)
 clear hw1 hk1
 go_wp2
 go_loopw [7, 15] (fun _ i wr => ∃ k : Nat, k ≤ xs.length ∧ i = .int .i64 k ∧ Hid (Wtr B b (l ++ intB xs.length ++ (xs.take k).flatMap g) wr ∧ KeptW B b w wr)) (fun _ i _ => xs.length - (intOf i).toNat)
 case atStart => exact ⟨0, Nat.zero_le _, rfl, hid ⟨by simpa using HH.out.1, HH.out.2⟩⟩
 case round =>
  obtain ⟨k, hk, rfl, hh⟩ := hrel
  by_cases hlt : k < xs.length
  · have hlt3 : (k : Int) < (xs.length : Int) := by omega
    have hbr : Below w0.heap.size w0 wr := HP.out.2.1.trans (hh.out.2.1.mono HP.out.2.2.1)
    have hBr : B ≤ wr.heap.size := Nat.le_trans HP.out.2.2.2 hh.out.2.1.size
    obtain ⟨d, hds⟩ : ∃ d, xs[k]? = some d := ⟨_, List.getElem?_eq_getElem hlt⟩
    obtain ⟨g0, off, cap', he0, hg0, hcr⟩ := HP.out.1.at_ (by decide) hds
    cases he0
    have hdm := List.mem_of_getElem? hds
    have hlen2 : (l ++ intB xs.length ++ (xs.take k).flatMap g).length + (g d).length ≤ 140737488355328 := by
     have := zaq (f := g) hds
     have := HL.out
     simp only [List.length_append]
     omega
    have C2 := hid (fun (W : World) (hW : Wtr B b (l ++ intB xs.length ++ (xs.take k).flatMap g) W) (hK : KeptW B b w W) => HF.out d hdm _ W hW hK hlen2)
    have HT := hid (zaf hds)
    have hg0r : g0 < wr.heap.size := Nat.lt_of_lt_of_le hg0 (by have := hbr.size; omega)
    have e0 : wr.cell? ⟨g0, off + k, none⟩ = some (.int .i64 d) := by simpa [intC] using hcr wr hbr 0 (by decide)
    clear hcr hdm hds hlen2 hbr
    go_wp2_with fail
    refine (C2.out _ hh.out.1 hh.out.2).mono ?_
    rintro e w2 ⟨rfl, hw2, hk2⟩
    have HN := hid (And.intro hw2 (hh.out.2.trans hk2))
    clear hw2 hk2
    go_wp2
    go_roundw
    case rel => exact ⟨k + 1, by omega, by go_num, hid ⟨by rw [HT.out, List.flatMap_append, ← List.append_assoc]; simpa using HN.out.1, HN.out.2⟩⟩
    case measure => simp [intOf]; omega
  obtain rfl : k = xs.length := by omega
  have HE := hid (show Wtr B b (l ++ intB xs.length ++ xs.flatMap g) wr from by have := hh.out.1; rwa [List.take_length] at this)
  go_wp2
  (first | go_end0 | refine bodyPost_ret (results_none rfl _ _ _) rfl ?_)
  exact ⟨rfl, HE.out, hh.out.2⟩
theorem zu3 (B b K : Nat) (x : Value) (g : HueD → List UInt8) (l : List UInt8) (v : Value) (xs : List HueD) (w0 w : World) (h : Wtr B b l w) (h0 : Below w0.heap.size w0 w) (hB0 : w0.heap.size ≤ B) (hv : ListAt 3 hueA w0 v xs)
  (he : ∀ args W, (callFunc K args).run Tryz.prog W = .ok (.enter K args) W)
  (F : ∀ d ∈ xs, ∀ (pre : List UInt8) (W : World), Wtr B b pre W → KeptW B b w W → pre.length + (g d).length ≤ 140737488355328 → Calls Tryz.prog K #[.agg #[.int .i64 d.ch, .int .i64 d.at_, .int .i64 d.lev], x] W fun e w' => e = .returned (.tuple #[]) ∧ Wtr B b (pre ++ g d) w' ∧ KeptW B b W w')
  (hlen : l.length + (intB xs.length).length + (xs.flatMap g).length ≤ 140737488355328) (hB : B ≤ w.heap.size) :
  Calls Tryz.prog 97 #[.pointer (some ⟨b, 0, none⟩), v, .func (.func K) #[] #[x]] w fun e w' => e = .returned (.tuple #[]) ∧ Wtr B b (l ++ intB xs.length ++ xs.flatMap g) w' ∧ KeptW B b w w' := by
 obtain ⟨a, cap, rfl⟩ := hv.shape
 have hml := hv.few
 have C := hid (za9 B b l xs.length w h (by omega) (by omega) hB)
 have HF := hid F
 have HL := hid hlen
 have HP := hid (And.intro hv (And.intro h0 (And.intro hB0 hB)))
 have h3 : (xs.length : Int) ≤ 140737488351232 := by omega
 clear F hlen h hv h0 hB0
 go_enter Tryz.func97, Tryz.ntmps97
 go_wp2_with fail
 refine C.out.mono ?_
 rintro e w1 ⟨rfl, hw1, hk1⟩
 have HH := hid (And.intro hw1 hk1)
 clear hw1 hk1
 go_wp2
 go_loopw [7, 15] (fun _ i wr => ∃ k : Nat, k ≤ xs.length ∧ i = .int .i64 k ∧ Hid (Wtr B b (l ++ intB xs.length ++ (xs.take k).flatMap g) wr ∧ KeptW B b w wr)) (fun _ i _ => xs.length - (intOf i).toNat)
 case atStart => exact ⟨0, Nat.zero_le _, rfl, hid ⟨by simpa using HH.out.1, HH.out.2⟩⟩
 case round =>
  obtain ⟨k, hk, rfl, hh⟩ := hrel
  by_cases hlt : k < xs.length
  · have hlt3 : (k : Int) < (xs.length : Int) := by omega
    have hbr : Below w0.heap.size w0 wr := HP.out.2.1.trans (hh.out.2.1.mono HP.out.2.2.1)
    have hBr : B ≤ wr.heap.size := Nat.le_trans HP.out.2.2.2 hh.out.2.1.size
    obtain ⟨d, hds⟩ : ∃ d, xs[k]? = some d := ⟨_, List.getElem?_eq_getElem hlt⟩
    obtain ⟨g0, off, cap', he0, hg0, hcr⟩ := HP.out.1.at_ (by decide) hds
    cases he0
    have hdm := List.mem_of_getElem? hds
    have hlen2 : (l ++ intB xs.length ++ (xs.take k).flatMap g).length + (g d).length ≤ 140737488355328 := by
     have := zaq (f := g) hds
     have := HL.out
     simp only [List.length_append]
     omega
    have C2 := hid (fun (W : World) (hW : Wtr B b (l ++ intB xs.length ++ (xs.take k).flatMap g) W) (hK : KeptW B b w W) => HF.out d hdm _ W hW hK hlen2)
    have HT := hid (zaf hds)
    have hg0r : g0 < wr.heap.size := Nat.lt_of_lt_of_le hg0 (by have := hbr.size; omega)
    have e0 : wr.cell? ⟨g0, off + k * 3, none⟩ = some (.int .i64 d.ch) := hcr wr hbr 0 (by decide)
    have e1 : wr.cell? ⟨g0, off + k * 3 + 1, none⟩ = some (.int .i64 d.at_) := hcr wr hbr 1 (by decide)
    have e2 : wr.cell? ⟨g0, off + k * 3 + 2, none⟩ = some (.int .i64 d.lev) := hcr wr hbr 2 (by decide)
    clear hcr hdm hds hlen2 hbr
    go_wp2_with fail
    refine (C2.out _ (hh.out.1.alloc _) (hh.out.2.alloc hBr _)).mono ?_
    rintro e w2 ⟨rfl, hw2, hk2⟩
    have HN := hid (And.intro hw2 ((hh.out.2.alloc hBr _).trans hk2))
    clear hw2 hk2
    go_wp2
    go_roundw
    case rel => exact ⟨k + 1, by omega, by go_num, hid ⟨by rw [HT.out, List.flatMap_append, ← List.append_assoc]; simpa using HN.out.1, HN.out.2⟩⟩
    case measure => simp [intOf]; omega
  obtain rfl : k = xs.length := by omega
  have HE := hid (show Wtr B b (l ++ intB xs.length ++ xs.flatMap g) wr from by have := hh.out.1; rwa [List.take_length] at this)
  go_wp2
  (first | go_end0 | refine bodyPost_ret (results_none rfl _ _ _) rfl ?_)
  exact ⟨rfl, HE.out, hh.out.2⟩
theorem zvc (B b K : Nat) (x : Value) (g : GainD → List UInt8) (l : List UInt8) (v : Value) (xs : List GainD) (w0 w : World) (h : Wtr B b l w) (h0 : Below w0.heap.size w0 w) (hB0 : w0.heap.size ≤ B) (hv : ListAt 3 gainA w0 v xs)
  (he : ∀ args W, (callFunc K args).run Tryz.prog W = .ok (.enter K args) W)
  (F : ∀ d ∈ xs, ∀ (pre : List UInt8) (W : World), Wtr B b pre W → KeptW B b w W → pre.length + (g d).length ≤ 140737488355328 → Calls Tryz.prog K #[.agg #[.int .i64 d.ch, .int .i64 d.at_, .int .i64 d.lev], x] W fun e w' => e = .returned (.tuple #[]) ∧ Wtr B b (pre ++ g d) w' ∧ KeptW B b W w')
  (hlen : l.length + (intB xs.length).length + (xs.flatMap g).length ≤ 140737488355328) (hB : B ≤ w.heap.size) :
  Calls Tryz.prog 206 #[.pointer (some ⟨b, 0, none⟩), v, .func (.func K) #[] #[x]] w fun e w' => e = .returned (.tuple #[]) ∧ Wtr B b (l ++ intB xs.length ++ xs.flatMap g) w' ∧ KeptW B b w w' := by
 obtain ⟨a, cap, rfl⟩ := hv.shape
 have hml := hv.few
 have C := hid (za9 B b l xs.length w h (by omega) (by omega) hB)
 have HF := hid F
 have HL := hid hlen
 have HP := hid (And.intro hv (And.intro h0 (And.intro hB0 hB)))
 have h3 : (xs.length : Int) ≤ 140737488351232 := by omega
 clear F hlen h hv h0 hB0
 go_enter Tryz.func206, Tryz.ntmps206
 go_wp2_with fail
 refine C.out.mono ?_
 rintro e w1 ⟨rfl, hw1, hk1⟩
 have HH := hid (And.intro hw1 hk1)
 clear hw1 hk1
 go_wp2
 go_loopw [7, 15] (fun _ i wr => ∃ k : Nat, k ≤ xs.length ∧ i = .int .i64 k ∧ Hid (Wtr B b (l ++ intB xs.length ++ (xs.take k).flatMap g) wr ∧ KeptW B b w wr)) (fun _ i _ => xs.length - (intOf i).toNat)
 case atStart => exact ⟨0, Nat.zero_le _, rfl, hid ⟨by simpa using HH.out.1, HH.out.2⟩⟩
 case round =>
  obtain ⟨k, hk, rfl, hh⟩ := hrel
  by_cases hlt : k < xs.length
  · have hlt3 : (k : Int) < (xs.length : Int) := by omega
    have hbr : Below w0.heap.size w0 wr := HP.out.2.1.trans (hh.out.2.1.mono HP.out.2.2.1)
    have hBr : B ≤ wr.heap.size := Nat.le_trans HP.out.2.2.2 hh.out.2.1.size
    obtain ⟨d, hds⟩ : ∃ d, xs[k]? = some d := ⟨_, List.getElem?_eq_getElem hlt⟩
    obtain ⟨g0, off, cap', he0, hg0, hcr⟩ := HP.out.1.at_ (by decide) hds
    cases he0
    have hdm := List.mem_of_getElem? hds
    have hlen2 : (l ++ intB xs.length ++ (xs.take k).flatMap g).length + (g d).length ≤ 140737488355328 := by
     have := zaq (f := g) hds
     have := HL.out
     simp only [List.length_append]
     omega
    have C2 := hid (fun (W : World) (hW : Wtr B b (l ++ intB xs.length ++ (xs.take k).flatMap g) W) (hK : KeptW B b w W) => HF.out d hdm _ W hW hK hlen2)
    have HT := hid (zaf hds)
    have hg0r : g0 < wr.heap.size := Nat.lt_of_lt_of_le hg0 (by have := hbr.size; omega)
    have e0 : wr.cell? ⟨g0, off + k * 3, none⟩ = some (.int .i64 d.ch) := hcr wr hbr 0 (by decide)
    have e1 : wr.cell? ⟨g0, off + k * 3 + 1, none⟩ = some (.int .i64 d.at_) := hcr wr hbr 1 (by decide)
    have e2 : wr.cell? ⟨g0, off + k * 3 + 2, none⟩ = some (.int .i64 d.lev) := hcr wr hbr 2 (by decide)
    clear hcr hdm hds hlen2 hbr
    go_wp2_with fail
    refine (C2.out _ (hh.out.1.alloc _) (hh.out.2.alloc hBr _)).mono ?_
    rintro e w2 ⟨rfl, hw2, hk2⟩
    have HN := hid (And.intro hw2 ((hh.out.2.alloc hBr _).trans hk2))
    clear hw2 hk2
    go_wp2
    go_roundw
    case rel => exact ⟨k + 1, by omega, by go_num, hid ⟨by rw [HT.out, List.flatMap_append, ← List.append_assoc]; simpa using HN.out.1, HN.out.2⟩⟩
    case measure => simp [intOf]; omega
  obtain rfl : k = xs.length := by omega
  have HE := hid (show Wtr B b (l ++ intB xs.length ++ xs.flatMap g) wr from by have := hh.out.1; rwa [List.take_length] at this)
  go_wp2
  (first | go_end0 | refine bodyPost_ret (results_none rfl _ _ _) rfl ?_)
  exact ⟨rfl, HE.out, hh.out.2⟩
theorem zra (B b K : Nat) (x : Value) (g : FeatD × Value → List UInt8) (l : List UInt8) (v : Value) (xs : List (FeatD × Value)) (w0 w : World) (h : Wtr B b l w) (h0 : Below w0.heap.size w0 w) (hB0 : w0.heap.size ≤ B) (hv : ListAt 10 featA w0 v xs) (hsl : ∀ d ∈ xs, ∃ a c, d.2 = .slice a d.1.wheel.length c)
  (he : ∀ args W, (callFunc K args).run Tryz.prog W = .ok (.enter K args) W)
  (F : ∀ d ∈ xs, ∀ (pre : List UInt8) (W : World), Wtr B b pre W → KeptW B b w W → pre.length + (g d).length ≤ 140737488355328 → Calls Tryz.prog K #[.agg (featA d), x] W fun e w' => e = .returned (.tuple #[]) ∧ Wtr B b (pre ++ g d) w' ∧ KeptW B b W w')
  (hlen : l.length + (intB xs.length).length + (xs.flatMap g).length ≤ 140737488355328) (hB : B ≤ w.heap.size) :
  Calls Tryz.prog 202 #[.pointer (some ⟨b, 0, none⟩), v, .func (.func K) #[] #[x]] w fun e w' => e = .returned (.tuple #[]) ∧ Wtr B b (l ++ intB xs.length ++ xs.flatMap g) w' ∧ KeptW B b w w' := by
 obtain ⟨a, cap, rfl⟩ := hv.shape
 have hml := hv.few
 have C := hid (za9 B b l xs.length w h (by omega) (by omega) hB)
 have HF := hid F
 have HL := hid hlen
 have HP := hid (And.intro hv (And.intro h0 (And.intro hB0 hB)))
 have h3 : (xs.length : Int) ≤ 140737488351232 := by omega
 clear F hlen h hv h0 hB0
 go_enter Tryz.func202, Tryz.ntmps202
 go_wp2_with fail
 refine C.out.mono ?_
 rintro e w1 ⟨rfl, hw1, hk1⟩
 have HH := hid (And.intro hw1 hk1)
 clear hw1 hk1
 go_wp2
 go_loopw [7, 15] (fun _ i wr => ∃ k : Nat, k ≤ xs.length ∧ i = .int .i64 k ∧ Hid (Wtr B b (l ++ intB xs.length ++ (xs.take k).flatMap g) wr ∧ KeptW B b w wr)) (fun _ i _ => xs.length - (intOf i).toNat)
 case atStart => exact ⟨0, Nat.zero_le _, rfl, hid ⟨by simpa using HH.out.1, HH.out.2⟩⟩
 case round =>
  obtain ⟨k, hk, rfl, hh⟩ := hrel
  by_cases hlt : k < xs.length
  · have hlt3 : (k : Int) < (xs.length : Int) := by omega
    have hbr : Below w0.heap.size w0 wr := HP.out.2.1.trans (hh.out.2.1.mono HP.out.2.2.1)
    have hBr : B ≤ wr.heap.size := Nat.le_trans HP.out.2.2.2 hh.out.2.1.size
    obtain ⟨d, hds⟩ : ∃ d, xs[k]? = some d := ⟨_, List.getElem?_eq_getElem hlt⟩
    obtain ⟨g0, off, cap', he0, hg0, hcr⟩ := HP.out.1.at_ (by decide) hds
    cases he0
    have hdm := List.mem_of_getElem? hds
    have hlen2 : (l ++ intB xs.length ++ (xs.take k).flatMap g).length + (g d).length ≤ 140737488355328 := by
     have := zaq (f := g) hds
     have := HL.out
     simp only [List.length_append]
     omega
    have C2 := hid (fun (W : World) (hW : Wtr B b (l ++ intB xs.length ++ (xs.take k).flatMap g) W) (hK : KeptW B b w W) => HF.out d hdm _ W hW hK hlen2)
    have HT := hid (zaf hds)
    have hg0r : g0 < wr.heap.size := Nat.lt_of_lt_of_le hg0 (by have := hbr.size; omega)
    obtain ⟨fa, fc, hfy⟩ := hsl d hdm
    obtain ⟨d, y⟩ := d
    simp only at hfy
    subst hfy
    have e0 : wr.cell? ⟨g0, off + k * 10, none⟩ = some (.int .i64 d.attr) := hcr wr hbr 0 (by decide)
    have e1 : wr.cell? ⟨g0, off + k * 10 + 1, none⟩ = some (.int .i64 d.bits) := hcr wr hbr 1 (by decide)
    have e2 : wr.cell? ⟨g0, off + k * 10 + 2, none⟩ = some (.int .i64 d.coarse) := hcr wr hbr 2 (by decide)
    have e3 : wr.cell? ⟨g0, off + k * 10 + 3, none⟩ = some (.int .i64 d.fine) := hcr wr hbr 3 (by decide)
    have e4 : wr.cell? ⟨g0, off + k * 10 + 4, none⟩ = some (.int .i64 d.curve) := hcr wr hbr 4 (by decide)
    have e5 : wr.cell? ⟨g0, off + k * 10 + 5, none⟩ = some (.int .i64 d.home) := hcr wr hbr 5 (by decide)
    have e6 : wr.cell? ⟨g0, off + k * 10 + 6, none⟩ = some (.int .i64 d.low) := hcr wr hbr 6 (by decide)
    have e7 : wr.cell? ⟨g0, off + k * 10 + 7, none⟩ = some (.int .i64 d.high) := hcr wr hbr 7 (by decide)
    have e8 : wr.cell? ⟨g0, off + k * 10 + 8, none⟩ = some (.bool d.snap) := hcr wr hbr 8 (by decide)
    have e9 : wr.cell? ⟨g0, off + k * 10 + 9, none⟩ = some (.slice fa d.wheel.length fc) := hcr wr hbr 9 (by decide)
    simp only [featA] at C2
    clear hcr hdm hds hlen2 hbr
    go_wp2_with fail
    refine (C2.out _ (hh.out.1.alloc _) (hh.out.2.alloc hBr _)).mono ?_
    rintro e w2 ⟨rfl, hw2, hk2⟩
    have HN := hid (And.intro hw2 ((hh.out.2.alloc hBr _).trans hk2))
    clear hw2 hk2
    go_wp2
    go_roundw
    case rel => exact ⟨k + 1, by omega, by go_num, hid ⟨by rw [HT.out, List.flatMap_append, ← List.append_assoc]; simpa using HN.out.1, HN.out.2⟩⟩
    case measure => simp [intOf]; omega
  obtain rfl : k = xs.length := by omega
  have HE := hid (show Wtr B b (l ++ intB xs.length ++ xs.flatMap g) wr from by have := hh.out.1; rwa [List.take_length] at this)
  go_wp2
  (first | go_end0 | refine bodyPost_ret (results_none rfl _ _ _) rfl ?_)
  exact ⟨rfl, HE.out, hh.out.2⟩
end Go.Proofs.YtjeigphhepngmaaGreatDoor
