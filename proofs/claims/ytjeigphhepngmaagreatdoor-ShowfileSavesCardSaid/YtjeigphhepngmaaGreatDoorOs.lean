/- -/
import Derived.Test.YtjeigphhepngmaaGreatDoorOm
import Derived.Shelf.Abstract
import Derived.Laws.EntriesVeiled
import Derived.Test.YtjeigphhepngmaaGreatDoorYe
import Derived.Test.YtjeigphhepngmaaGreatDoorYm
namespace Go.Proofs.YtjeigphhepngmaaGreatDoor
open Go.RowKit
open Go.Lib (hid)
set_option maxHeartbeats 8000000
set_option linter.unusedSimpArgs false
set_option maxRecDepth 100000
theorem zw6 (t : ByteArray) (v1 v2 v3 v4 v5 v6 v7 v8 : Value) (E0 E1 E2 E3 : Int) (w : World)
   (H0 : ∀ W, Below w.heap.size w W → Calls Tryz.prog 208 #[.string t] W fun e w' => e = .returned (.int .i64 E0) ∧ Below W.heap.size W w')
   (H1 : ∀ W, Below w.heap.size w W → Calls Tryz.prog 209 #[v1] W fun e w' => e = .returned (.int .i64 E1) ∧ Below W.heap.size W w')
   (H2 : ∀ W, Below w.heap.size w W → Calls Tryz.prog 210 #[v2, v1] W fun e w' => e = .returned (.int .i64 E2) ∧ Below W.heap.size W w')
   (H3 : ∀ W, Below w.heap.size w W → Calls Tryz.prog 211 #[v3, v2] W fun e w' => e = .returned (.int .i64 E3) ∧ Below W.heap.size W w') :
   Calls Tryz.prog 106 #[.agg #[.string t, v1, v2, v3, v4, v5, v6, v7, v8]] w fun e w' => e = .returned (.int .i64 (if E0 ≠ 0 then E0 else if E1 ≠ 0 then E1 else if E2 ≠ 0 then E2 else E3)) ∧ Below w.heap.size w w' := by
 have R := hid (And.intro (RowAt.new w 31 #[.string t, v1, v2, v3, v4, v5, v6, v7, v8]) (show Below w.heap.size w (w.alloc (.cells #[.string t, v1, v2, v3, v4, v5, v6, v7, v8] 31)) from bel))
 have P0 := hid H0
 have P1 := hid H1
 have P2 := hid H2
 have P3 := hid H3
 clear H0 H1 H2 H3
 by_cases z0 : E0 ≠ 0
 · have y0 : (E0 == 0) = false := by simpa using z0
   rw [if_pos z0]
   go_enter Tryz.func106, Tryz.ntmps106
   go_wp2_with fail
   refine (P0.out _ R.out.2).mono ?_
   rintro e w1 ⟨rfl, hb⟩
   have b0 := hid ((R.out.2).trans (hb.mono (R.out.2).size))
   have r0 := hid ((R.out.1).run hb)
   have xx0 := (zaa r0.out).1
   clear hb
   clear xx0
   go_wp2
   go_ret
   exact ⟨rfl, b0.out⟩
 obtain rfl : E0 = 0 := by omega
 clear z0
 rw [if_neg (by simp)]
 by_cases z1 : E1 ≠ 0
 · have y1 : (E1 == 0) = false := by simpa using z1
   rw [if_pos z1]
   go_enter Tryz.func106, Tryz.ntmps106
   go_wp2_with fail
   refine (P0.out _ R.out.2).mono ?_
   rintro e w1 ⟨rfl, hb⟩
   have b0 := hid ((R.out.2).trans (hb.mono (R.out.2).size))
   have r0 := hid ((R.out.1).run hb)
   have xx0 := (zaa r0.out).1
   clear hb
   go_wp2_with fail
   refine (P1.out _ b0.out).mono ?_
   rintro e w2 ⟨rfl, hb⟩
   have b1 := hid ((b0.out).trans (hb.mono (b0.out).size))
   have r1 := hid ((r0.out).run hb)
   have xx1 := (zaa r1.out).1
   clear xx0
   clear hb
   clear xx1
   go_wp2
   go_ret
   exact ⟨rfl, b1.out⟩
 obtain rfl : E1 = 0 := by omega
 clear z1
 rw [if_neg (by simp)]
 by_cases z2 : E2 ≠ 0
 · have y2 : (E2 == 0) = false := by simpa using z2
   rw [if_pos z2]
   go_enter Tryz.func106, Tryz.ntmps106
   go_wp2_with fail
   refine (P0.out _ R.out.2).mono ?_
   rintro e w1 ⟨rfl, hb⟩
   have b0 := hid ((R.out.2).trans (hb.mono (R.out.2).size))
   have r0 := hid ((R.out.1).run hb)
   have xx0 := (zaa r0.out).1
   clear hb
   go_wp2_with fail
   refine (P1.out _ b0.out).mono ?_
   rintro e w2 ⟨rfl, hb⟩
   have b1 := hid ((b0.out).trans (hb.mono (b0.out).size))
   have r1 := hid ((r0.out).run hb)
   have xx1 := (zaa r1.out).1
   clear xx0
   clear hb
   go_wp2_with fail
   refine (P2.out _ b1.out).mono ?_
   rintro e w3 ⟨rfl, hb⟩
   have b2 := hid ((b1.out).trans (hb.mono (b1.out).size))
   have r2 := hid ((r1.out).run hb)
   have xx2 := (zaa r2.out).1
   clear xx1
   clear hb
   clear xx2
   go_wp2
   go_ret
   exact ⟨rfl, b2.out⟩
 obtain rfl : E2 = 0 := by omega
 clear z2
 rw [if_neg (by simp)]
 go_enter Tryz.func106, Tryz.ntmps106
 go_wp2_with fail
 refine (P0.out _ R.out.2).mono ?_
 rintro e w1 ⟨rfl, hb⟩
 have b0 := hid ((R.out.2).trans (hb.mono (R.out.2).size))
 have r0 := hid ((R.out.1).run hb)
 have xx0 := (zaa r0.out).1
 clear hb
 go_wp2_with fail
 refine (P1.out _ b0.out).mono ?_
 rintro e w2 ⟨rfl, hb⟩
 have b1 := hid ((b0.out).trans (hb.mono (b0.out).size))
 have r1 := hid ((r0.out).run hb)
 have xx1 := (zaa r1.out).1
 clear xx0
 clear hb
 go_wp2_with fail
 refine (P2.out _ b1.out).mono ?_
 rintro e w3 ⟨rfl, hb⟩
 have b2 := hid ((b1.out).trans (hb.mono (b1.out).size))
 have r2 := hid ((r1.out).run hb)
 have xx2 := (zaa r2.out).1
 clear xx1
 clear hb
 go_wp2_with fail
 refine (P3.out _ b2.out).mono ?_
 rintro e w4 ⟨rfl, hb⟩
 have b3 := hid ((b2.out).trans (hb.mono (b2.out).size))
 have r3 := hid ((r2.out).run hb)
 have xx3 := (zaa r3.out).1
 clear xx2
 clear hb
 clear xx3
 go_wp2
 go_ret
 exact ⟨rfl, b3.out⟩
theorem zp6 (t : ByteArray) (v1 v2 v3 v4 v5 v6 v7 v8 : Value) (E0 E1 E2 E3 E4 E5 : Int) (w : World)
   (H0 : ∀ W, Below w.heap.size w W → Calls Tryz.prog 106 #[.agg #[.string t, v1, v2, v3, v4, v5, v6, v7, v8]] W fun e w' => e = .returned (.int .i64 E0) ∧ Below W.heap.size W w')
   (H1 : ∀ W, Below w.heap.size w W → Calls Tryz.prog 107 #[v4] W fun e w' => e = .returned (.int .i64 E1) ∧ Below W.heap.size W w')
   (H2 : ∀ W, Below w.heap.size w W → Calls Tryz.prog 108 #[v5] W fun e w' => e = .returned (.int .i64 E2) ∧ Below W.heap.size W w')
   (H3 : ∀ W, Below w.heap.size w W → Calls Tryz.prog 109 #[v6] W fun e w' => e = .returned (.int .i64 E3) ∧ Below W.heap.size W w')
   (H4 : ∀ W, Below w.heap.size w W → Calls Tryz.prog 110 #[v7] W fun e w' => e = .returned (.int .i64 E4) ∧ Below W.heap.size W w')
   (H5 : ∀ W, Below w.heap.size w W → Calls Tryz.prog 111 #[v8] W fun e w' => e = .returned (.int .i64 E5) ∧ Below W.heap.size W w') :
   Calls Tryz.prog 45 #[.agg #[.string t, v1, v2, v3, v4, v5, v6, v7, v8]] w fun e w' => e = .returned (.int .i64 (if E0 ≠ 0 then E0 else if E1 ≠ 0 then E1 else if E2 ≠ 0 then E2 else if E3 ≠ 0 then E3 else if E4 ≠ 0 then E4 else E5)) ∧ Below w.heap.size w w' := by
 have R := hid (And.intro (RowAt.new w 31 #[.string t, v1, v2, v3, v4, v5, v6, v7, v8]) (show Below w.heap.size w (w.alloc (.cells #[.string t, v1, v2, v3, v4, v5, v6, v7, v8] 31)) from bel))
 have P0 := hid H0
 have P1 := hid H1
 have P2 := hid H2
 have P3 := hid H3
 have P4 := hid H4
 have P5 := hid H5
 clear H0 H1 H2 H3 H4 H5
 by_cases z0 : E0 ≠ 0
 · have y0 : (E0 == 0) = false := by simpa using z0
   rw [if_pos z0]
   go_enter Tryz.func45, Tryz.ntmps45
   go_wp2_with fail
   refine (P0.out _ R.out.2).mono ?_
   rintro e w1 ⟨rfl, hb⟩
   have b0 := hid ((R.out.2).trans (hb.mono (R.out.2).size))
   have r0 := hid ((R.out.1).run hb)
   have xx0 := (zaa r0.out).1
   clear hb
   clear xx0
   go_wp2
   go_ret
   exact ⟨rfl, b0.out⟩
 obtain rfl : E0 = 0 := by omega
 clear z0
 rw [if_neg (by simp)]
 by_cases z1 : E1 ≠ 0
 · have y1 : (E1 == 0) = false := by simpa using z1
   rw [if_pos z1]
   go_enter Tryz.func45, Tryz.ntmps45
   go_wp2_with fail
   refine (P0.out _ R.out.2).mono ?_
   rintro e w1 ⟨rfl, hb⟩
   have b0 := hid ((R.out.2).trans (hb.mono (R.out.2).size))
   have r0 := hid ((R.out.1).run hb)
   have xx0 := (zaa r0.out).1
   clear hb
   go_wp2_with fail
   refine (P1.out _ b0.out).mono ?_
   rintro e w2 ⟨rfl, hb⟩
   have b1 := hid ((b0.out).trans (hb.mono (b0.out).size))
   have r1 := hid ((r0.out).run hb)
   have xx1 := (zaa r1.out).1
   clear xx0
   clear hb
   clear xx1
   go_wp2
   go_ret
   exact ⟨rfl, b1.out⟩
 obtain rfl : E1 = 0 := by omega
 clear z1
 rw [if_neg (by simp)]
 by_cases z2 : E2 ≠ 0
 · have y2 : (E2 == 0) = false := by simpa using z2
   rw [if_pos z2]
   go_enter Tryz.func45, Tryz.ntmps45
   go_wp2_with fail
   refine (P0.out _ R.out.2).mono ?_
   rintro e w1 ⟨rfl, hb⟩
   have b0 := hid ((R.out.2).trans (hb.mono (R.out.2).size))
   have r0 := hid ((R.out.1).run hb)
   have xx0 := (zaa r0.out).1
   clear hb
   go_wp2_with fail
   refine (P1.out _ b0.out).mono ?_
   rintro e w2 ⟨rfl, hb⟩
   have b1 := hid ((b0.out).trans (hb.mono (b0.out).size))
   have r1 := hid ((r0.out).run hb)
   have xx1 := (zaa r1.out).1
   clear xx0
   clear hb
   go_wp2_with fail
   refine (P2.out _ b1.out).mono ?_
   rintro e w3 ⟨rfl, hb⟩
   have b2 := hid ((b1.out).trans (hb.mono (b1.out).size))
   have r2 := hid ((r1.out).run hb)
   have xx2 := (zaa r2.out).1
   clear xx1
   clear hb
   clear xx2
   go_wp2
   go_ret
   exact ⟨rfl, b2.out⟩
 obtain rfl : E2 = 0 := by omega
 clear z2
 rw [if_neg (by simp)]
 by_cases z3 : E3 ≠ 0
 · have y3 : (E3 == 0) = false := by simpa using z3
   rw [if_pos z3]
   go_enter Tryz.func45, Tryz.ntmps45
   go_wp2_with fail
   refine (P0.out _ R.out.2).mono ?_
   rintro e w1 ⟨rfl, hb⟩
   have b0 := hid ((R.out.2).trans (hb.mono (R.out.2).size))
   have r0 := hid ((R.out.1).run hb)
   have xx0 := (zaa r0.out).1
   clear hb
   go_wp2_with fail
   refine (P1.out _ b0.out).mono ?_
   rintro e w2 ⟨rfl, hb⟩
   have b1 := hid ((b0.out).trans (hb.mono (b0.out).size))
   have r1 := hid ((r0.out).run hb)
   have xx1 := (zaa r1.out).1
   clear xx0
   clear hb
   go_wp2_with fail
   refine (P2.out _ b1.out).mono ?_
   rintro e w3 ⟨rfl, hb⟩
   have b2 := hid ((b1.out).trans (hb.mono (b1.out).size))
   have r2 := hid ((r1.out).run hb)
   have xx2 := (zaa r2.out).1
   clear xx1
   clear hb
   go_wp2_with fail
   refine (P3.out _ b2.out).mono ?_
   rintro e w4 ⟨rfl, hb⟩
   have b3 := hid ((b2.out).trans (hb.mono (b2.out).size))
   have r3 := hid ((r2.out).run hb)
   have xx3 := (zaa r3.out).1
   clear xx2
   clear hb
   clear xx3
   go_wp2
   go_ret
   exact ⟨rfl, b3.out⟩
 obtain rfl : E3 = 0 := by omega
 clear z3
 rw [if_neg (by simp)]
 by_cases z4 : E4 ≠ 0
 · have y4 : (E4 == 0) = false := by simpa using z4
   rw [if_pos z4]
   go_enter Tryz.func45, Tryz.ntmps45
   go_wp2_with fail
   refine (P0.out _ R.out.2).mono ?_
   rintro e w1 ⟨rfl, hb⟩
   have b0 := hid ((R.out.2).trans (hb.mono (R.out.2).size))
   have r0 := hid ((R.out.1).run hb)
   have xx0 := (zaa r0.out).1
   clear hb
   go_wp2_with fail
   refine (P1.out _ b0.out).mono ?_
   rintro e w2 ⟨rfl, hb⟩
   have b1 := hid ((b0.out).trans (hb.mono (b0.out).size))
   have r1 := hid ((r0.out).run hb)
   have xx1 := (zaa r1.out).1
   clear xx0
   clear hb
   go_wp2_with fail
   refine (P2.out _ b1.out).mono ?_
   rintro e w3 ⟨rfl, hb⟩
   have b2 := hid ((b1.out).trans (hb.mono (b1.out).size))
   have r2 := hid ((r1.out).run hb)
   have xx2 := (zaa r2.out).1
   clear xx1
   clear hb
   go_wp2_with fail
   refine (P3.out _ b2.out).mono ?_
   rintro e w4 ⟨rfl, hb⟩
   have b3 := hid ((b2.out).trans (hb.mono (b2.out).size))
   have r3 := hid ((r2.out).run hb)
   have xx3 := (zaa r3.out).1
   clear xx2
   clear hb
   go_wp2_with fail
   refine (P4.out _ b3.out).mono ?_
   rintro e w5 ⟨rfl, hb⟩
   have b4 := hid ((b3.out).trans (hb.mono (b3.out).size))
   have r4 := hid ((r3.out).run hb)
   have xx4 := (zaa r4.out).1
   clear xx3
   clear hb
   clear xx4
   go_wp2
   go_ret
   exact ⟨rfl, b4.out⟩
 obtain rfl : E4 = 0 := by omega
 clear z4
 rw [if_neg (by simp)]
 go_enter Tryz.func45, Tryz.ntmps45
 go_wp2_with fail
 refine (P0.out _ R.out.2).mono ?_
 rintro e w1 ⟨rfl, hb⟩
 have b0 := hid ((R.out.2).trans (hb.mono (R.out.2).size))
 have r0 := hid ((R.out.1).run hb)
 have xx0 := (zaa r0.out).1
 clear hb
 go_wp2_with fail
 refine (P1.out _ b0.out).mono ?_
 rintro e w2 ⟨rfl, hb⟩
 have b1 := hid ((b0.out).trans (hb.mono (b0.out).size))
 have r1 := hid ((r0.out).run hb)
 have xx1 := (zaa r1.out).1
 clear xx0
 clear hb
 go_wp2_with fail
 refine (P2.out _ b1.out).mono ?_
 rintro e w3 ⟨rfl, hb⟩
 have b2 := hid ((b1.out).trans (hb.mono (b1.out).size))
 have r2 := hid ((r1.out).run hb)
 have xx2 := (zaa r2.out).1
 clear xx1
 clear hb
 go_wp2_with fail
 refine (P3.out _ b2.out).mono ?_
 rintro e w4 ⟨rfl, hb⟩
 have b3 := hid ((b2.out).trans (hb.mono (b2.out).size))
 have r3 := hid ((r2.out).run hb)
 have xx3 := (zaa r3.out).1
 clear xx2
 clear hb
 go_wp2_with fail
 refine (P4.out _ b3.out).mono ?_
 rintro e w5 ⟨rfl, hb⟩
 have b4 := hid ((b3.out).trans (hb.mono (b3.out).size))
 have r4 := hid ((r3.out).run hb)
 have xx4 := (zaa r4.out).1
 clear xx3
 clear hb
 go_wp2_with fail
 refine (P5.out _ b4.out).mono ?_
 rintro e w6 ⟨rfl, hb⟩
 have b5 := hid ((b4.out).trans (hb.mono (b4.out).size))
 have r5 := hid ((r4.out).run hb)
 have xx5 := (zaa r5.out).1
 clear xx4
 clear hb
 clear xx5
 go_wp2
 go_ret
 exact ⟨rfl, b5.out⟩
def firstOf : List Int → Int
 | [] => 0
 | e :: l => if e ≠ 0 then e else firstOf l
def partsA : Array Value := #[.func (.func 184) #[] #[], .func (.func 185) #[] #[], .func (.func 188) #[] #[], .func (.func 190) #[] #[], .func (.func 192) #[] #[], .func (.func 193) #[] #[], .func (.func 195) #[] #[]]
theorem zb6 (w : World) : Calls Tryz.prog 82 #[] w fun e w' => ∃ g, e = .returned (.slice (some ⟨g, 0, none⟩) 7 7) ∧ RowAt w' g 166 partsA ∧ Below w.heap.size w w' := by
 go_enter Tryz.func82, Tryz.ntmps82
 go_wp2
 go_ret
 exact ⟨_, rfl, RowAt.new _ _ _, bel⟩
def PartE (K : Nat) (a : Array Value) (w : World) (x : Int) : Prop := ∀ W, Below w.heap.size w W → Calls Tryz.prog K #[.agg a] W fun e w' => e = .returned (.int .i64 x) ∧ Below W.heap.size W w'
def partF : Nat → Nat
 | 0 => 184
 | 1 => 185
 | 2 => 188
 | 3 => 190
 | 4 => 192
 | 5 => 193
 | _ => 195
theorem zmz (k : Nat) (h : k < 7) : partsA[k]? = some (.func (.func (partF k)) #[] #[]) := by
 have : k = 0 ∨ k = 1 ∨ k = 2 ∨ k = 3 ∨ k = 4 ∨ k = 5 ∨ k = 6 := by omega
 rcases this with rfl | rfl | rfl | rfl | rfl | rfl | rfl <;> rfl
theorem zlt : ∀ args W, (callFunc 184 args).run Tryz.prog W = .ok (.enter 184 args) W := enters_of Tryz.func184 (by kernel_rfl) rfl
theorem zvq : ∀ args W, (callFunc 185 args).run Tryz.prog W = .ok (.enter 185 args) W := enters_of Tryz.func185 (by kernel_rfl) rfl
theorem zvn : ∀ args W, (callFunc 188 args).run Tryz.prog W = .ok (.enter 188 args) W := enters_of Tryz.func188 (by kernel_rfl) rfl
theorem zm6 : ∀ args W, (callFunc 190 args).run Tryz.prog W = .ok (.enter 190 args) W := enters_of Tryz.func190 (by kernel_rfl) rfl
theorem zr6 : ∀ args W, (callFunc 192 args).run Tryz.prog W = .ok (.enter 192 args) W := enters_of Tryz.func192 (by kernel_rfl) rfl
theorem zw9 : ∀ args W, (callFunc 193 args).run Tryz.prog W = .ok (.enter 193 args) W := enters_of Tryz.func193 (by kernel_rfl) rfl
theorem zx0 : ∀ args W, (callFunc 195 args).run Tryz.prog W = .ok (.enter 195 args) W := enters_of Tryz.func195 (by kernel_rfl) rfl
theorem za7 (k : Nat) (h : k < 7) : ∀ args W, (callFunc (partF k) args).run Tryz.prog W = .ok (.enter (partF k) args) W := by
 have : k = 0 ∨ k = 1 ∨ k = 2 ∨ k = 3 ∨ k = 4 ∨ k = 5 ∨ k = 6 := by omega
 rcases this with rfl | rfl | rfl | rfl | rfl | rfl | rfl
 · exact zlt
 · exact zvq
 · exact zvn
 · exact zm6
 · exact zr6
 · exact zw9
 exact zx0
theorem zvv (E : Nat → Int) (k : Nat) (hk : k < 7) (h0 : ∀ j, j < k → E j = 0) (h1 : E k ≠ 0) : firstOf [E 0, E 1, E 2, E 3, E 4, E 5, E 6] = E k := by
 have : k = 0 ∨ k = 1 ∨ k = 2 ∨ k = 3 ∨ k = 4 ∨ k = 5 ∨ k = 6 := by omega
 rcases this with rfl | rfl | rfl | rfl | rfl | rfl | rfl <;> simp [firstOf, h1, h0]
theorem zkf (t : ByteArray) (v1 v2 v3 v4 v5 v6 v7 v8 : Value) (E : Nat → Int) (w : World)
  (H : ∀ k, k < 7 → PartE (partF k) #[.string t, v1, v2, v3, v4, v5, v6, v7, v8] w (E k)) :
  Calls Tryz.prog 43 #[.agg #[.string t, v1, v2, v3, v4, v5, v6, v7, v8]] w fun e w' => e = .returned (.int .i64 (firstOf [E 0, E 1, E 2, E 3, E 4, E 5, E 6])) ∧ Below w.heap.size w w' := by
 have hst : ∀ (W : World) (a : Addr) (fn : Fn) (x y : Array Value), (store a (.func fn x y)).run Tryz.prog W = stored Tryz.prog W a (.func fn x y) .plain := fun W a fn x y => run_store Tryz.prog W a _ .plain rfl
 have HP := hid H
 clear H
 go_enter Tryz.func43, Tryz.ntmps43
 go_wp2_with fail
 have s0 : RowAt (w.alloc (.cells #[.string t, v1, v2, v3, v4, v5, v6, v7, v8] 31)) w.heap.size 31 #[.string t, v1, v2, v3, v4, v5, v6, v7, v8] := RowAt.new _ _ _
 have b0 : Below w.heap.size w (w.alloc (.cells #[.string t, v1, v2, v3, v4, v5, v6, v7, v8] 31)) := bel
 have H0 := hid (And.intro s0 b0)
 clear s0 b0
 refine (zb6 _).mono ?_
 rintro e w1 ⟨g, rfl, hg, hb1⟩
 have H1 := hid (And.intro (H0.out.1.run hb1) (And.intro hg (H0.out.2.trans (hb1.mono H0.out.2.size))))
 clear hg hb1
 go_wp2
 go_loopw [8] (fun i wr => ∃ k : Nat, k ≤ 7 ∧ i = .int .i64 k ∧ Hid ((∀ j, j < k → E j = 0) ∧ RowAt wr w.heap.size 31 #[.string t, v1, v2, v3, v4, v5, v6, v7, v8] ∧ RowAt wr g 166 partsA ∧ Below w.heap.size w wr)) (fun i _ => 7 - (intOf i).toNat)
 case atStart => exact ⟨0, Nat.zero_le _, rfl, hid ⟨fun j hj => absurd hj (by omega), H1.out⟩⟩
 case round =>
  obtain ⟨k, hk, rfl, hh⟩ := hrel
  obtain ⟨hz, hs, hg, hb⟩ := hh.out
  by_cases hlt : k < 7
  · have hlt3 : (k : Int) < 7 := by omega
    obtain ⟨x, hx⟩ : ∃ x, E k = x := ⟨_, rfl⟩
    have P := hid (fun (W : World) (hW : Below w.heap.size w W) => hx ▸ HP.out k hlt W hW)
    have HH := hid (And.intro hs (And.intro hg hb))
    have HZ := hid (And.intro hz hx)
    have HK := hid (zvv E k hlt hz)
    have he := za7 k hlt
    obtain ⟨x1, x2, x3, x4, x5, x6⟩ := zaa hs
    obtain ⟨y1, y2, y3, y4, y5, y6⟩ := zaa hg
    have yk := y1 k
    rw [zmz k hlt] at yk
    have hbs := hb.size
    generalize partF k = K at he yk P
    clear y1 hz hx hs hg hb hh
    by_cases hx0 : x = 0
    · subst hx0
      go_wp2_with fail
      refine (P.out _ (HH.out.2.2.alloc hbs _)).mono ?_
      rintro e w2 ⟨rfl, hb2⟩
      have hb3 : Below wr.heap.size wr w2 := bel
      have H3 := hid (And.intro (HH.out.1.run hb3) (And.intro (HH.out.2.1.run hb3) (HH.out.2.2.trans (hb3.mono hbs))))
      clear hb2 hb3
      go_wp2
      go_roundw
      case rel =>
       refine ⟨k + 1, by omega, by go_num, hid ⟨fun j hj => ?_, H3.out⟩⟩
       by_cases hjk : j = k
       · subst hjk; exact HZ.out.2
       exact HZ.out.1 j (by omega)
      case measure => simp [intOf]; omega
    have hx1 : (x == 0) = false := by simpa using hx0
    go_wp2_with fail
    refine (P.out _ (HH.out.2.2.alloc hbs _)).mono ?_
    rintro e w2 ⟨rfl, hb2⟩
    have hb3 : Below wr.heap.size wr w2 := bel
    go_wp2
    go_ret
    exact ⟨zab (by rw [HK.out (by rw [HZ.out.2]; exact hx0), HZ.out.2]), HH.out.2.2.trans (hb3.mono hbs)⟩
  obtain rfl : k = 7 := by omega
  go_wp2
  go_ret
  refine ⟨?_, hb⟩
  simp [firstOf, hz]
theorem znp (t : ByteArray) (v1 v2 v3 v4 v5 v6 v7 v8 : Value) (E : Int) (w : World) (H : ∀ W, Below w.heap.size w W → Calls Tryz.prog 189 #[v4] W fun e w' => e = .returned (.int .i64 E) ∧ Below W.heap.size W w') :
  Calls Tryz.prog 188 #[.agg #[.string t, v1, v2, v3, v4, v5, v6, v7, v8]] w fun e w' => e = .returned (.int .i64 E) ∧ Below w.heap.size w w' := by
 have P := hid H
 clear H
 go_enter Tryz.func188, Tryz.ntmps188
 go_wp2_with fail
 have hb0 : Below w.heap.size w (w.alloc (.cells #[.string t, v1, v2, v3, v4, v5, v6, v7, v8] 31)) := bel
 refine (P.out _ hb0).mono ?_
 rintro e w1 ⟨rfl, hb⟩
 have hbe := hid (hb0.trans (hb.mono hb0.size))
 clear hb0 hb
 go_wp2
 go_ret
 exact ⟨rfl, hbe.out⟩
theorem zvg (t : ByteArray) (v1 v2 v3 v4 v5 v6 v7 v8 : Value) (E : Int) (w : World) (H : ∀ W, Below w.heap.size w W → Calls Tryz.prog 191 #[v5] W fun e w' => e = .returned (.int .i64 E) ∧ Below W.heap.size W w') :
  Calls Tryz.prog 190 #[.agg #[.string t, v1, v2, v3, v4, v5, v6, v7, v8]] w fun e w' => e = .returned (.int .i64 E) ∧ Below w.heap.size w w' := by
 have P := hid H
 clear H
 go_enter Tryz.func190, Tryz.ntmps190
 go_wp2_with fail
 have hb0 : Below w.heap.size w (w.alloc (.cells #[.string t, v1, v2, v3, v4, v5, v6, v7, v8] 31)) := bel
 refine (P.out _ hb0).mono ?_
 rintro e w1 ⟨rfl, hb⟩
 have hbe := hid (hb0.trans (hb.mono hb0.size))
 clear hb0 hb
 go_wp2
 go_ret
 exact ⟨rfl, hbe.out⟩
theorem zoj (t : ByteArray) (v1 v2 v3 v4 v5 v6 v7 v8 : Value) (E : Int) (w : World) (H : ∀ W, Below w.heap.size w W → Calls Tryz.prog 194 #[v7] W fun e w' => e = .returned (.int .i64 E) ∧ Below W.heap.size W w') :
  Calls Tryz.prog 193 #[.agg #[.string t, v1, v2, v3, v4, v5, v6, v7, v8]] w fun e w' => e = .returned (.int .i64 E) ∧ Below w.heap.size w w' := by
 have P := hid H
 clear H
 go_enter Tryz.func193, Tryz.ntmps193
 go_wp2_with fail
 have hb0 : Below w.heap.size w (w.alloc (.cells #[.string t, v1, v2, v3, v4, v5, v6, v7, v8] 31)) := bel
 refine (P.out _ hb0).mono ?_
 rintro e w1 ⟨rfl, hb⟩
 have hbe := hid (hb0.trans (hb.mono hb0.size))
 clear hb0 hb
 go_wp2
 go_ret
 exact ⟨rfl, hbe.out⟩
theorem zuc (t : ByteArray) (v1 v2 v3 v4 v5 v6 v7 v8 : Value) (E : Int) (w : World) (H : ∀ W, Below w.heap.size w W → Calls Tryz.prog 196 #[v8] W fun e w' => e = .returned (.int .i64 E) ∧ Below W.heap.size W w') :
  Calls Tryz.prog 195 #[.agg #[.string t, v1, v2, v3, v4, v5, v6, v7, v8]] w fun e w' => e = .returned (.int .i64 E) ∧ Below w.heap.size w w' := by
 have P := hid H
 clear H
 go_enter Tryz.func195, Tryz.ntmps195
 go_wp2_with fail
 have hb0 : Below w.heap.size w (w.alloc (.cells #[.string t, v1, v2, v3, v4, v5, v6, v7, v8] 31)) := bel
 refine (P.out _ hb0).mono ?_
 rintro e w1 ⟨rfl, hb⟩
 have hbe := hid (hb0.trans (hb.mono hb0.size))
 clear hb0 hb
 go_wp2
 go_ret
 exact ⟨rfl, hbe.out⟩
theorem zff (t : ByteArray) (a1 a2 a3 : Option Addr) (n1 n2 n3 c1 c2 c3 : Nat) (v4 v5 v6 v7 v8 : Value) (w : World) : Calls Tryz.prog 187 #[.agg #[.string t, .slice a1 n1 c1, .slice a2 n2 c2, .slice a3 n3 c3, v4, v5, v6, v7, v8]] w fun e w' => e = .returned (.agg #[.slice a1 n1 c1, .slice a2 n2 c2, .slice a3 n3 c3]) ∧ Below w.heap.size w w' := by
 have rz : RowAt ((w.alloc (.cells #[.string t, .slice a1 n1 c1, .slice a2 n2 c2, .slice a3 n3 c3, v4, v5, v6, v7, v8] 31)).alloc (.cells #[.slice a1 n1 c1, .slice a2 n2 c2, .slice a3 n3 c3] 255)) (w.heap.size + 1) 255 #[.slice a1 n1 c1, .slice a2 n2 c2, .slice a3 n3 c3] := RowAt.mk (by simp) rfl
 obtain ⟨z1, z2, z3, z4, z5, z6⟩ := zaa rz
 have z7 := z1 0
 have z8 := z1 1
 have z9 := z1 2
 simp only [List.getElem?_toArray, List.getElem?_cons_zero, List.getElem?_cons_succ] at z7 z8 z9
 clear rz z1
 go_enter Tryz.func187, Tryz.ntmps187
 go_wp2
 refine bodyPost_ret (v := .agg #[.slice a1 n1 c1, .slice a2 n2 c2, .slice a3 n3 c3]) ?_ rfl ⟨rfl, bel⟩
 simp [results, Tryz.results187, go_sem, z7, z8, z9]
theorem zxy (t : ByteArray) (a1 a2 a3 : Option Addr) (n1 n2 n3 c1 c2 c3 : Nat) (v4 v5 v6 v7 v8 : Value) (E : Int) (w : World) (H : ∀ W, Below w.heap.size w W → Calls Tryz.prog 186 #[.agg #[.slice a1 n1 c1, .slice a2 n2 c2, .slice a3 n3 c3]] W fun e w' => e = .returned (.int .i64 E) ∧ Below W.heap.size W w') :
  Calls Tryz.prog 185 #[.agg #[.string t, .slice a1 n1 c1, .slice a2 n2 c2, .slice a3 n3 c3, v4, v5, v6, v7, v8]] w fun e w' => e = .returned (.int .i64 E) ∧ Below w.heap.size w w' := by
 have P := hid H
 clear H
 go_enter Tryz.func185, Tryz.ntmps185
 go_wp2_with fail
 have hb0 : Below w.heap.size w (w.alloc (.cells #[.string t, .slice a1 n1 c1, .slice a2 n2 c2, .slice a3 n3 c3, v4, v5, v6, v7, v8] 31)) := bel
 refine (zff t a1 a2 a3 n1 n2 n3 c1 c2 c3 v4 v5 v6 v7 v8 _).mono ?_
 rintro e w1 ⟨rfl, hb⟩
 have hb1 := hb0.trans (hb.mono hb0.size)
 clear hb0 hb
 go_wp2_with fail
 refine (P.out _ hb1).mono ?_
 rintro e w2 ⟨rfl, hb2⟩
 have hbe := hid (hb1.trans (hb2.mono hb1.size))
 clear hb1 hb2
 go_wp2
 go_ret
 exact ⟨rfl, hbe.out⟩
theorem zee (s : ByteArray) (v1 v2 v3 v4 v5 v6 v7 v8 : Value) (w : World) (hs : s.size ≤ 9223372036854775807) :
   Calls Tryz.prog 184 #[.agg #[.string s, v1, v2, v3, v4, v5, v6, v7, v8]] w fun e w' => e = .returned (.int .i64 (labE s)) ∧ Below w.heap.size w w' := by
 by_cases h : 24 < s.size
 · have h2 : (24 : Int) < (s.size : Int) := by omega
   rw [labE, if_pos h]
   go_enter Tryz.func184, Tryz.ntmps184
   go_wp2
   go_ret
   exact ⟨rfl, bel⟩
 have h2 : ¬ (24 : Int) < (s.size : Int) := by omega
 have h3 : (s.size : Int) ≤ 24 := by omega
 obtain ⟨W1, cap, hc1, hcel, hb, hlt⟩ := zf8 s (w.alloc (.cells #[.string s, v1, v2, v3, v4, v5, v6, v7, v8] 31))
 have HL := hid (show labE s = if s.data.toList.all okCh then 0 else 3 from by rw [labE, if_neg h])
 simp only [show (w.alloc (.cells #[.string s, v1, v2, v3, v4, v5, v6, v7, v8] 31)).heap.size = w.heap.size + 1 from by simp] at hcel hc1
 have HC := hid hcel
 have HB := hid (show Below w.heap.size w W1 from bel)
 clear hcel hb
 go_enter Tryz.func184, Tryz.ntmps184
 go_wp2
 go_loopw [4, 13] (fun _ i wr => ∃ k : Nat, k ≤ s.size ∧ i = .int .i64 k ∧ Hid ((s.data.toList.take k).all okCh = true) ∧ wr = W1) (fun _ i _ => s.size - (intOf i).toNat)
 case atStart => exact ⟨0, Nat.zero_le _, rfl, by simp [Hid], rfl⟩
 case round =>
   obtain ⟨k, hk, rfl, hf, rfl⟩ := hrel
   by_cases hlt2 : k < s.size
   · have hlt3 : (k : Int) < (s.size : Int) := by omega
     obtain ⟨c0, -⟩ := HC.out k hlt2
     rw [zel s k hlt2] at c0
     obtain ⟨x, hx⟩ : ∃ x, s[k] = x := ⟨_, rfl⟩
     rw [hx] at c0
     have HX := hid hx
     clear hx hc1
     obtain ⟨y, hy⟩ : ∃ y : Int, (x.toNat : Int) = y := ⟨_, rfl⟩
     rw [hy] at c0
     have HY := hid hy
     clear hy
     by_cases hq : okCh x = true
     · have q1 : ¬ y < 32 := by have := HY.out; simp [okCh] at hq; omega
       have q2 : ¬ 126 < y := by have := HY.out; simp [okCh] at hq; omega
       have q3 : (y == 34) = false := by have := HY.out; simp [okCh] at hq; simp; omega
       have HQ := hid hq
       clear hq
       go_wp2
       go_roundw
       case rel => exact ⟨k + 1, by omega, by go_num, zed hlt2 hf.out (by rw [HX.out]; exact HQ.out), (by first | rfl | trivial)⟩
       case measure => simp [intOf]; omega
     have hq2 : okCh x = false := by simpa using hq
     have q1 : y < 32 ∨ 126 < y ∨ y = 34 := by have := HY.out; simp [okCh] at hq2; omega
     have HQ := hid hq2
     clear hq hq2
     by_cases r1 : y < 32
     · go_wp2
       go_ret
       exact ⟨zab (by rw [HL.out, zca hlt2 (by rw [HX.out]; exact HQ.out)]; rfl), HB.out⟩
     by_cases r2 : 126 < y
     · go_wp2
       go_ret
       exact ⟨zab (by rw [HL.out, zca hlt2 (by rw [HX.out]; exact HQ.out)]; rfl), HB.out⟩
     obtain rfl : y = 34 := by omega
     go_wp2
     go_ret
     exact ⟨zab (by rw [HL.out, zca hlt2 (by rw [HX.out]; exact HQ.out)]; rfl), HB.out⟩
   obtain rfl : k = s.size := by omega
   go_wp2
   go_ret
   exact ⟨zab (by rw [HL.out, zer hf.out]; rfl), HB.out⟩
def showEs (s : ShowD) : Nat → Int
 | 0 => labE s.title
 | 1 => rigE s
 | 2 => grpsE s.grps
 | 3 => palsE s.pals
 | 4 => listsE s.lists
 | 5 => subsE s.subs
 | _ => effsE s.effs
theorem zq2 (s : ShowD) : firstOf [showEs s 0, showEs s 1, showEs s 2, showEs s 3, showEs s 4, showEs s 5, showEs s 6] = showE s := by
 simp only [showEs, showE]
 generalize labE s.title = e0
 generalize rigE s = e1
 generalize grpsE s.grps = e2
 generalize palsE s.pals = e3
 generalize listsE s.lists = e4
 generalize subsE s.subs = e5
 generalize effsE s.effs = e6
 by_cases h0 : e0 = 0 <;> by_cases h1 : e1 = 0 <;> by_cases h2 : e2 = 0 <;> by_cases h3 : e3 = 0 <;> by_cases h4 : e4 = 0 <;> by_cases h5 : e5 = 0 <;> by_cases h6 : e6 = 0 <;> simp [firstOf, *]
theorem zrv (s : ShowD) (v : ShowV) (w : World) (h : ShowAt w v s)
  (HP : profsE s.curves s.profs = 0 → ∀ W, Below w.heap.size w W → Calls Tryz.prog 268 #[v.fixs, v.profs] W fun e w' => e = .returned (.int .i64 (patchE s.profs s.fixs)) ∧ Below W.heap.size W w') :
  Calls Tryz.prog 43 #[.agg (showA s v)] w fun e w' => e = .returned (.int .i64 (showE s)) ∧ Below w.heap.size w w' := by
 obtain ⟨t, cs, ps, fs, gs, pls, ls, ss, es⟩ := s
 obtain ⟨v1, v2, v3, v4, v5, v6, v7, v8⟩ := v
 have hC := h.curves
 have hF := h.profs
 have hX := h.fixs
 have hG := h.grps
 have hL := h.pals
 have hT := h.lists
 have hS := h.subs
 have hE := h.effs
 have ht := h.title
 clear h
 simp only at hC hF hX hG hL hT hS hE ht HP
 obtain ⟨a1, c1, rfl⟩ := hC.shape
 obtain ⟨a2, c2, rfl⟩ := hF.shape
 obtain ⟨a3, c3, rfl⟩ := hX.shape
 have H := zkf t (.slice a1 cs.length c1) (.slice a2 ps.length c2) (.slice a3 fs.length c3) v4 v5 v6 v7 v8 (showEs ⟨t, cs, ps, fs, gs, pls, ls, ss, es⟩) w (fun k hk W hb => by
  match k, hk with
  | 0, _ => exact zee t _ _ _ _ _ _ _ _ W (by omega)
  | 1, _ => exact zxy t a1 a2 a3 cs.length ps.length fs.length c1 c2 c3 v4 v5 v6 v7 v8 _ W (fun U hU => zw4 _ _ _ cs ps fs U ((hC.run zaz hb).run zaz hU) ((hF.run zap hb).run zap hU) ⟨_, _, _, rfl⟩ (fun h0 V hV => HP h0 V ((hb.trans (hU.mono hb.size)).trans (hV.mono (Nat.le_trans hb.size hU.size)))))
  | 2, _ => exact znp t _ _ _ v4 v5 v6 v7 v8 _ W (fun U hU => zu8 _ gs U ((hG.run zbf hb).run zbf hU))
  | 3, _ => exact zvg t _ _ _ v4 v5 v6 v7 v8 _ W (fun U hU => zvu _ pls U ((hL.run zbe hb).run zbe hU))
  | 4, _ => exact zuh t _ _ _ v4 v5 v7 v8 v6 ls W (hT.run zbz hb)
  | 5, _ => exact zoj t _ _ _ v4 v5 v6 v7 v8 _ W (fun U hU => zn6 _ ss U ((hS.run zbm hb).run zbm hU))
  | 6, _ => exact zuc t _ _ _ v4 v5 v6 v7 v8 _ W (fun U hU => zuo _ es U ((hE.run zb0 hb).run zb0 hU)))
 rw [zq2] at H
 exact H
theorem zt7 (s : ShowD) : (if (if labE s.title ≠ 0 then labE s.title else if curvesE s.curves ≠ 0 then curvesE s.curves else if profsE s.curves s.profs ≠ 0 then profsE s.curves s.profs else patchE s.profs s.fixs) ≠ 0 then (if labE s.title ≠ 0 then labE s.title else if curvesE s.curves ≠ 0 then curvesE s.curves else if profsE s.curves s.profs ≠ 0 then profsE s.curves s.profs else patchE s.profs s.fixs) else if grpsE s.grps ≠ 0 then grpsE s.grps else if palsE s.pals ≠ 0 then palsE s.pals else if listsE s.lists ≠ 0 then listsE s.lists else if subsE s.subs ≠ 0 then subsE s.subs else effsE s.effs) = showE s := by
 unfold showE rigE
 generalize labE s.title = e0
 generalize curvesE s.curves = e1
 generalize profsE s.curves s.profs = e2
 generalize patchE s.profs s.fixs = e3
 by_cases h0 : e0 = 0 <;> by_cases h1 : e1 = 0 <;> by_cases h2 : e2 = 0 <;> by_cases h3 : e3 = 0 <;> simp [*]
theorem zu4 (s : ShowD) (v : ShowV) (w : World) (h : ShowAt w v s)
  (HP : ∀ W, Below w.heap.size w W → Calls Tryz.prog 211 #[v.fixs, v.profs] W fun e w' => e = .returned (.int .i64 (patchE s.profs s.fixs)) ∧ Below W.heap.size W w') :
  Calls Tryz.prog 45 #[.agg (showA s v)] w fun e w' => e = .returned (.int .i64 (showE s)) ∧ Below w.heap.size w w' := by
 obtain ⟨t, cs, ps, fs, gs, pls, ls, ss, es⟩ := s
 obtain ⟨v1, v2, v3, v4, v5, v6, v7, v8⟩ := v
 have hC := h.curves
 have hF := h.profs
 have hG := h.grps
 have hL := h.pals
 have hT := h.lists
 have hS := h.subs
 have hE := h.effs
 have ht := h.title
 clear h
 simp only at hC hF hG hL hT hS hE ht HP
 have H := zp6 t v1 v2 v3 v4 v5 v6 v7 v8 _ _ _ _ _ _ w
  (fun W hb => zw6 t v1 v2 v3 v4 v5 v6 v7 v8 (labE t) (curvesE cs) (profsE cs ps) (patchE ps fs) W
   (fun U _ => (zp0 t U (by omega)).mono fun _ _ h => ⟨h.1, h.2 ▸ Below.refl _ _⟩)
   (fun U hU => zhw v1 cs U ((hC.run zaz hb).run zaz hU))
   (fun U hU => zmh v2 v1 ps cs U ((hF.run zap hb).run zap hU) ((hC.run zaz hb).run zaz hU))
   (fun U hU => HP U (hb.trans (hU.mono hb.size))))
  (fun W hb => zsc v4 gs W (hG.run zbf hb))
  (fun W hb => ztk v5 pls W (hL.run zbe hb))
  (fun W hb => zs6 v6 ls W (hT.run zbz hb))
  (fun W hb => zsj v7 ss W (hS.run zbm hb))
  (fun W hb => ztm v8 es W (hE.run zb0 hb))
 have e := zt7 ⟨t, cs, ps, fs, gs, pls, ls, ss, es⟩
 simp only at e
 rw [e] at H
 exact H
end Go.Proofs.YtjeigphhepngmaaGreatDoor
