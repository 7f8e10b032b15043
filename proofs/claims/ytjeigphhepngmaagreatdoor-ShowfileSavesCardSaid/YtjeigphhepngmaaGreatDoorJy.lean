/- -/
import Derived.Test.YtjeigphhepngmaaGreatDoorMs
namespace Go.Proofs.YtjeigphhepngmaaGreatDoor
open Go.RowKit
open Go.Lib (hid)
set_option maxHeartbeats 8000000
set_option linter.unusedSimpArgs false
set_option maxRecDepth 100000
def offsL (d : FeatD) : List Int := if d.bits = 16 then [d.coarse, d.fine] else [d.coarse]
def bitsE (d : FeatD) : Int := if d.bits ≠ 8 ∧ d.bits ≠ 16 then 1 else 0
def low2 (d : FeatD) : Bool := decide (d.low < 0 ∨ d.high < d.low ∨ topB d.bits < d.high)
theorem zkt {w : World} {b T cap : Nat} {cs : Array Value} (l : List Int) (h : RowAt w b T cs) (hl : cs.toList = genL intC l) (h0 : l.length ≠ 0) (h1 : l.length ≤ 100) : ListAt 1 intC w (.slice (some ⟨b, 0, none⟩) l.length cap) l := by
 refine .inr ⟨Nat.pos_of_ne_zero h0, by omega, b, 0, cap, rfl, lt_of_block h, fun j _ => ?_⟩
 rw [Nat.zero_add, (zaa h).1 j, ← Array.getElem?_toList, hl]
 exact zet (f := intC) (S := 1) (by decide) (fun _ => rfl) l j
theorem zsa (q : Nat) (x : FeatD × Value) (w : World) (h : RowAt w q 161 (featA x)) :
   Calls Tryz.prog 331 #[.pointer (some ⟨q, 0, none⟩)] w fun e w' => e = .returned (.bool (decide (x.1.attr < 0 ∨ 15 ≤ x.1.attr))) ∧ Below w.heap.size w w' := by
 obtain ⟨⟨attr, bits, coarse, fine, curve, home, low, high, snap, wheel⟩, v⟩ := x
 simp only [featA] at h
 obtain ⟨x1, x2, x3, x4, x5, x6⟩ := zaa h
 by_cases c0 : attr < 0
 · skip
   go_enter Tryz.func331, Tryz.ntmps331
   go_wp2
   go_ret
   exact ⟨zac (by simp [c0]), bel⟩
 skip
 by_cases c1 : 15 ≤ attr
 · skip
   go_enter Tryz.func331, Tryz.ntmps331
   go_wp2
   go_ret
   exact ⟨zac (by simp [c0, c1]), bel⟩
 skip
 go_enter Tryz.func331, Tryz.ntmps331
 go_wp2
 go_ret
 exact ⟨zac (by simp [c0, c1]), bel⟩
theorem zt9 (q : Nat) (x : FeatD × Value) (w : World) (h : RowAt w q 161 (featA x)) :
   Calls Tryz.prog 339 #[.pointer (some ⟨q, 0, none⟩)] w fun e w' => e = .returned (.bool (decide (x.1.bits = 8 ∧ x.1.fine ≠ 0))) ∧ Below w.heap.size w w' := by
 obtain ⟨⟨attr, bits, coarse, fine, curve, home, low, high, snap, wheel⟩, v⟩ := x
 simp only [featA] at h
 obtain ⟨x1, x2, x3, x4, x5, x6⟩ := zaa h
 by_cases c0 : bits = 8
 · skip
   by_cases c1 : fine = 0
   · skip
     go_enter Tryz.func339, Tryz.ntmps339
     go_wp2
     go_ret
     exact ⟨zac (by simp [c0, c1]), bel⟩
   skip
   go_enter Tryz.func339, Tryz.ntmps339
   go_wp2
   go_ret
   exact ⟨zac (by simp [c0, c1]), bel⟩
 skip
 go_enter Tryz.func339, Tryz.ntmps339
 go_wp2
 go_ret
 exact ⟨zac (by simp [c0]), bel⟩
theorem zqx (q : Nat) (x : FeatD × Value) (w : World) (h : RowAt w q 161 (featA x)) :
   Calls Tryz.prog 342 #[.pointer (some ⟨q, 0, none⟩)] w fun e w' => e = .returned (.bool (decide (x.1.bits = 16 ∧ x.1.fine = x.1.coarse))) ∧ Below w.heap.size w w' := by
 obtain ⟨⟨attr, bits, coarse, fine, curve, home, low, high, snap, wheel⟩, v⟩ := x
 simp only [featA] at h
 obtain ⟨x1, x2, x3, x4, x5, x6⟩ := zaa h
 by_cases c0 : bits = 16
 · skip
   by_cases c1 : fine = coarse
   · skip
     go_enter Tryz.func342, Tryz.ntmps342
     go_wp2
     go_ret
     exact ⟨zac (by simp [c0, c1]), bel⟩
   skip
   go_enter Tryz.func342, Tryz.ntmps342
   go_wp2
   go_ret
   exact ⟨zac (by simp [c0, c1]), bel⟩
 skip
 go_enter Tryz.func342, Tryz.ntmps342
 go_wp2
 go_ret
 exact ⟨zac (by simp [c0]), bel⟩
theorem zr7 (x : FeatD × Value) (w : World) : Calls Tryz.prog 334 #[.agg (featA x)] w fun e w' => e = .returned (.int .i64 (bitsE x.1)) ∧ Below w.heap.size w w' := by
 obtain ⟨⟨attr, bits, coarse, fine, curve, home, low, high, snap, wheel⟩, v⟩ := x
 simp only [featA, bitsE]
 by_cases h1 : bits = 8
 · rw [if_neg (by simp [h1])]
   go_enter Tryz.func334, Tryz.ntmps334
   go_wp2
   go_ret
   exact ⟨rfl, bel⟩
 by_cases h2 : bits = 16
 · rw [if_neg (by simp [h2])]
   go_enter Tryz.func334, Tryz.ntmps334
   go_wp2
   go_ret
   exact ⟨rfl, bel⟩
 rw [if_pos ⟨h1, h2⟩]
 have h3 : (bits != 8) = true := by simp [h1]
 have h4 : (bits != 16) = true := by simp [h2]
 go_enter Tryz.func334, Tryz.ntmps334
 go_wp2
 go_ret
 exact ⟨rfl, bel⟩
theorem zsg (q : Nat) (x : FeatD × Value) (w : World) (h : RowAt w q 161 (featA x)) :
   Calls Tryz.prog 333 #[.pointer (some ⟨q, 0, none⟩)] w fun e w' => e = .returned (.bool (decide (x.1.bits ≠ 8 ∧ x.1.bits ≠ 16))) ∧ Below w.heap.size w w' := by
 have C := hid (zr7 x w)
 have hr : (bitsE x.1 = 0 ∧ decide (x.1.bits ≠ 8 ∧ x.1.bits ≠ 16) = false) ∨ (bitsE x.1 = 1 ∧ decide (x.1.bits ≠ 8 ∧ x.1.bits ≠ 16) = true) := by
   unfold bitsE
   by_cases h1 : x.1.bits ≠ 8 ∧ x.1.bits ≠ 16
   · exact .inr ⟨if_pos h1, by simp [h1]⟩
   exact .inl ⟨if_neg h1, by simpa using h1⟩
 obtain ⟨⟨attr, bits, coarse, fine, curve, home, low, high, snap, wheel⟩, v⟩ := x
 simp only [featA] at h C
 obtain ⟨x1, x2, x3, x4, x5, x6⟩ := zaa h
 rcases hr with ⟨hr, hr2⟩ | ⟨hr, hr2⟩
 · rw [hr] at C
   rw [hr2]
   clear hr hr2
   go_enter Tryz.func333, Tryz.ntmps333
   go_wp2_with fail
   refine C.out.mono ?_
   rintro e w1 ⟨rfl, hb⟩
   go_wp2
   go_ret
   exact ⟨rfl, bel⟩
 rw [hr] at C
 rw [hr2]
 clear hr hr2
 go_enter Tryz.func333, Tryz.ntmps333
 go_wp2_with fail
 refine C.out.mono ?_
 rintro e w1 ⟨rfl, hb⟩
 go_wp2
 go_ret
 exact ⟨rfl, bel⟩
theorem zfk (x : FeatD × Value) (w : World) : Calls Tryz.prog 337 #[.agg (featA x)] w fun e w' => (∃ v, e = .returned v ∧ ListAt 1 intC w' v (offsL x.1)) ∧ Below w.heap.size w w' := by
 obtain ⟨⟨attr, bits, coarse, fine, curve, home, low, high, snap, wheel⟩, v⟩ := x
 simp only [featA, offsL]
 by_cases h1 : bits = 16
 · rw [if_pos h1]
   go_enter Tryz.func337, Tryz.ntmps337
   go_wp2
   go_ret
   exact ⟨⟨_, rfl, zkt (T := 3) (cs := #[.int .i64 coarse, .int .i64 fine]) [coarse, fine] (RowAt.mk (by simp) rfl) rfl (by simp) (by simp)⟩, bel⟩
 rw [if_neg h1]
 go_enter Tryz.func337, Tryz.ntmps337
 go_wp2
 go_ret
 exact ⟨⟨_, rfl, zkt (T := 3) (cs := #[.int .i64 coarse]) [coarse] (RowAt.mk (by simp) rfl) rfl (by simp) (by simp)⟩, bel⟩
theorem zxx (mp mb q : Nat) (l : List Int) (x : FeatD × Value) (w : World) (hm : RowAt w mp 399 #[.map (some mb)]) (hl : MapAt kI w mb (onB l)) (h : RowAt w q 161 (featA x)) :
  Calls Tryz.prog 332 #[.pointer (some ⟨mp, 0, none⟩), .pointer (some ⟨q, 0, none⟩)] w fun e w' => e = .returned (.bool (l.any fun m => decide (x.1.attr = m))) ∧ Below w.heap.size w w' := by
 obtain ⟨⟨attr, bits, coarse, fine, curve, home, low, high, snap, wheel⟩, v⟩ := x
 simp only [featA] at h
 obtain ⟨x1, x2, x3, x4, x5, x6⟩ := zaa h
 obtain ⟨y1, y2, y3, y4, y5, y6⟩ := zaa hm
 have y7 := y1 0
 have x7 := x1 0
 simp at x7 y7
 have hlk := zhf hl attr
 clear x1 y1
 go_enter Tryz.func332, Tryz.ntmps332
 go_wp2
 go_ret
 exact ⟨rfl, bel⟩
theorem znn (p : Nat) (y : ProfD × Value) (n : Int) (w : World) (h : RowAt w p 89 (profA y)) :
   Calls Tryz.prog 338 #[.int .i64 n, .pointer (some ⟨p, 0, none⟩)] w fun e w' => e = .returned (.bool (decide (n < 0 ∨ y.1.foot ≤ n))) ∧ Below w.heap.size w w' := by
 obtain ⟨⟨name, foot, watts, feats⟩, v⟩ := y
 simp only [profA] at h
 obtain ⟨x1, x2, x3, x4, x5, x6⟩ := zaa h
 by_cases c0 : n < 0
 · go_enter Tryz.func338, Tryz.ntmps338
   go_wp2
   go_ret
   exact ⟨zac (by simp [c0]), bel⟩
 by_cases c1 : foot ≤ n
 · go_enter Tryz.func338, Tryz.ntmps338
   go_wp2
   go_ret
   exact ⟨zac (by simp [c0, c1]), bel⟩
 go_enter Tryz.func338, Tryz.ntmps338
 go_wp2
 go_ret
 exact ⟨zac (by simp [c0, c1]), bel⟩
theorem zxr (mp mb : Nat) (l : List Int) (n : Int) (w : World) (hm : RowAt w mp 399 #[.map (some mb)]) (hl : MapAt kI w mb (onB l)) :
  Calls Tryz.prog 341 #[.int .i64 n, .pointer (some ⟨mp, 0, none⟩)] w fun e w' => e = .returned (.bool (l.any fun m => decide (n = m))) ∧ Below w.heap.size w w' := by
 obtain ⟨y1, y2, y3, y4, y5, y6⟩ := zaa hm
 have y7 := y1 0
 simp at y7
 have hlk := zhf hl n
 clear y1
 go_enter Tryz.func341, Tryz.ntmps341
 go_wp2
 go_ret
 exact ⟨rfl, bel⟩
theorem ztu : ∀ args W, (callFunc 338 args).run Tryz.prog W = .ok (.enter 338 args) W := enters_of Tryz.func338 (by kernel_rfl) rfl
theorem zga (p q : Nat) (x : FeatD × Value) (y : ProfD × Value) (w : World) (h : RowAt w q 161 (featA x)) (hp : RowAt w p 89 (profA y)) :
  Calls Tryz.prog 335 #[.pointer (some ⟨q, 0, none⟩), .pointer (some ⟨p, 0, none⟩)] w fun e w' => e = .returned (.bool ((offsL x.1).any fun n => decide (n < 0 ∨ y.1.foot ≤ n))) ∧ Below w.heap.size w w' := by
 have hmf : ∀ (fn : Fn) (first cap : Array Value) (w : World), (Instr.makeFunc fn first cap).run Tryz.prog w = .ok (.func fn first cap) w := fun _ _ _ _ => rfl
 have C := hid (zfk x w)
 have D := hid (fun (W : World) (hb : Below w.heap.size w W) (v : Value) (hv : ListAt 1 intC W v (offsL x.1)) => zd8 338 #[.pointer (some ⟨p, 0, none⟩)] (fun n => decide (n < 0 ∨ y.1.foot ≤ n)) v (offsL x.1) W hv ztu (fun n _ U hU => znn p y n U ((hp.run hb).run hU)))
 generalize ho : offsL x.1 = os at C D ⊢
 clear ho
 generalize (fun n => decide (n < 0 ∨ y.1.foot ≤ n)) = pd at D ⊢
 obtain ⟨⟨attr, bits, coarse, fine, curve, home, low, high, snap, wheel⟩, v⟩ := x
 simp only [featA] at h C
 obtain ⟨x1, x2, x3, x4, x5, x6⟩ := zaa h
 go_enter Tryz.func335, Tryz.ntmps335
 go_wp2_with fail
 refine C.out.mono ?_
 rintro e w1 ⟨⟨v1, rfl, hv⟩, hb⟩
 have E := hid (D.out w1 hb v1 hv)
 go_wp2_with fail
 refine E.out.mono ?_
 rintro e w2 ⟨rfl, hb2⟩
 go_wp2
 go_ret
 exact ⟨rfl, hb.trans (hb2.mono hb.size)⟩
theorem zwt : ∀ args W, (callFunc 341 args).run Tryz.prog W = .ok (.enter 341 args) W := enters_of Tryz.func341 (by kernel_rfl) rfl
theorem zf2 (mp mb q : Nat) (x : FeatD × Value) (l : List Int) (w : World) (h : RowAt w q 161 (featA x)) (hm : RowAt w mp 399 #[.map (some mb)]) (hl : MapAt kI w mb (onB l)) :
  Calls Tryz.prog 340 #[.pointer (some ⟨q, 0, none⟩), .pointer (some ⟨mp, 0, none⟩)] w fun e w' => e = .returned (.bool ((offsL x.1).any fun n => l.any fun m => decide (n = m))) ∧ Below w.heap.size w w' := by
 have hmf : ∀ (fn : Fn) (first cap : Array Value) (w : World), (Instr.makeFunc fn first cap).run Tryz.prog w = .ok (.func fn first cap) w := fun _ _ _ _ => rfl
 have C := hid (zfk x w)
 have D := hid (fun (W : World) (hb : Below w.heap.size w W) (v : Value) (hv : ListAt 1 intC W v (offsL x.1)) => zd8 341 #[.pointer (some ⟨mp, 0, none⟩)] (fun n => l.any fun m => decide (n = m)) v (offsL x.1) W hv zwt (fun n _ U hU => zxr mp mb l n U ((hm.run hb).run hU) ((hl.run hb).run hU)))
 generalize ho : offsL x.1 = os at C D ⊢
 clear ho
 generalize (fun n => l.any fun m => decide (n = m)) = pd at D ⊢
 obtain ⟨⟨attr, bits, coarse, fine, curve, home, low, high, snap, wheel⟩, v⟩ := x
 simp only [featA] at h C
 obtain ⟨x1, x2, x3, x4, x5, x6⟩ := zaa h
 go_enter Tryz.func340, Tryz.ntmps340
 go_wp2_with fail
 refine C.out.mono ?_
 rintro e w1 ⟨⟨v1, rfl, hv⟩, hb⟩
 have E := hid (D.out w1 hb v1 hv)
 go_wp2_with fail
 refine E.out.mono ?_
 rintro e w2 ⟨rfl, hb2⟩
 go_wp2
 go_ret
 exact ⟨rfl, hb.trans (hb2.mono hb.size)⟩
theorem zxk (q : Nat) (x : FeatD × Value) (w : World) (h : RowAt w q 161 (featA x)) :
  Calls Tryz.prog 380 #[.pointer (some ⟨q, 0, none⟩)] w fun e w' => e = .returned (.bool (!levB x.1.home)) ∧ Below w.heap.size w w' := by
 obtain ⟨⟨attr, bits, coarse, fine, curve, home, low, high, snap, wheel⟩, v⟩ := x
 simp only [featA] at h
 obtain ⟨x1, x2, x3, x4, x5, x6⟩ := zaa h
 have C := hid (fun W => zf4 home W)
 generalize levB home = b at C ⊢
 go_enter Tryz.func380, Tryz.ntmps380
 go_wp2_with fail
 refine (C.out _).mono ?_
 rintro e w1 ⟨rfl, rfl⟩
 go_wp2
 go_ret
 exact ⟨rfl, bel⟩
theorem zyk (q : Nat) (x : FeatD × Value) (w : World) (h : RowAt w q 161 (featA x)) (h8 : x.1.bits = 8 ∨ x.1.bits = 16) :
   Calls Tryz.prog 382 #[.pointer (some ⟨q, 0, none⟩)] w fun e w' => e = .returned (.bool (low2 x.1)) ∧ Below w.heap.size w w' := by
 obtain ⟨⟨attr, bits, coarse, fine, curve, home, low, high, snap, wheel⟩, v⟩ := x
 simp only [featA] at h h8
 have wE : IntKind.i64.wrap 255 = 255 := by decide
 have wF : IntKind.i64.wrap 65535 = 65535 := by decide
 have wA : IntKind.i64.wrap 256 = 256 := by decide
 have wB : IntKind.i64.wrap (256 - 1) = 255 := by decide
 have wC : IntKind.i64.wrap 65536 = 65536 := by decide
 have wD : IntKind.i64.wrap (65536 - 1) = 65535 := by decide
 simp only [low2]
 obtain ⟨x1, x2, x3, x4, x5, x6⟩ := zaa h
 rcases h8 with rfl | rfl
 · have ht : topB 8 = 255 := rfl
   rw [ht]
   clear ht
   by_cases c0 : low < 0
   · skip
     go_enter Tryz.func382, Tryz.ntmps382
     go_wp2
     go_quiet (fail)
     go_wp2
     go_ret
     exact ⟨zac (by (try simp only [wA, wB, wC, wD, wE, wF]); simp [or_assoc, Bool.or_assoc, c0]), bel⟩
   skip
   by_cases c1 : high < low
   · skip
     go_enter Tryz.func382, Tryz.ntmps382
     go_wp2
     go_quiet (fail)
     go_wp2
     go_ret
     exact ⟨zac (by (try simp only [wA, wB, wC, wD, wE, wF]); simp [or_assoc, Bool.or_assoc, c0, c1]), bel⟩
   skip
   by_cases c2 : 255 < high
   · skip
     go_enter Tryz.func382, Tryz.ntmps382
     go_wp2
     go_quiet (fail)
     go_wp2
     go_ret
     exact ⟨zac (by (try simp only [wA, wB, wC, wD, wE, wF]); simp [or_assoc, Bool.or_assoc, c0, c1, c2]), bel⟩
   skip
   go_enter Tryz.func382, Tryz.ntmps382
   go_wp2
   go_quiet (fail)
   go_wp2
   go_ret
   exact ⟨zac (by (try simp only [wA, wB, wC, wD, wE, wF]); simp [or_assoc, Bool.or_assoc, c0, c1, c2]), bel⟩
 have ht : topB 16 = 65535 := rfl
 rw [ht]
 clear ht
 by_cases c0 : low < 0
 · skip
   go_enter Tryz.func382, Tryz.ntmps382
   go_wp2
   go_quiet (fail)
   go_wp2
   go_ret
   exact ⟨zac (by (try simp only [wA, wB, wC, wD, wE, wF]); simp [or_assoc, Bool.or_assoc, c0]), bel⟩
 skip
 by_cases c1 : high < low
 · skip
   go_enter Tryz.func382, Tryz.ntmps382
   go_wp2
   go_quiet (fail)
   go_wp2
   go_ret
   exact ⟨zac (by (try simp only [wA, wB, wC, wD, wE, wF]); simp [or_assoc, Bool.or_assoc, c0, c1]), bel⟩
 skip
 by_cases c2 : 65535 < high
 · skip
   go_enter Tryz.func382, Tryz.ntmps382
   go_wp2
   go_quiet (fail)
   go_wp2
   go_ret
   exact ⟨zac (by (try simp only [wA, wB, wC, wD, wE, wF]); simp [or_assoc, Bool.or_assoc, c0, c1, c2]), bel⟩
 skip
 go_enter Tryz.func382, Tryz.ntmps382
 go_wp2
 go_quiet (fail)
 go_wp2
 go_ret
 exact ⟨zac (by (try simp only [wA, wB, wC, wD, wE, wF]); simp [or_assoc, Bool.or_assoc, c0, c1, c2]), bel⟩
def insR (q : Nat) (d : FeatD) : List Rule := [⟨380, #[.pointer (some ⟨q, 0, none⟩)], 2, !levB d.home⟩, ⟨382, #[.pointer (some ⟨q, 0, none⟩)], 2, low2 d⟩]
def insX (d : FeatD) : Int := if levB d.home = false ∨ d.low < 0 ∨ d.high < d.low ∨ topB d.bits < d.high then 2 else 0
theorem ztv (q : Nat) (d : FeatD) : ruleE (insR q d) = insX d := by
 unfold ruleE insR insX
 simp only [List.find?_cons, List.find?_nil]
 cases h1 : levB d.home with
 | false => simp
 | true =>
   cases h2 : low2 d with
   | true =>
     have h9 : d.low < 0 ∨ d.high < d.low ∨ topB d.bits < d.high := by simpa [low2] using h2
     simp [h9]
   | false =>
     have h9 : ¬ (d.low < 0 ∨ d.high < d.low ∨ topB d.bits < d.high) := by
      intro hn
      have : low2 d = true := by simpa [low2] using hn
      rw [h2] at this
      cases this
     simp [h9]
theorem zku (d : FeatD) : insideE d = if insX d ≠ 0 then insX d else wheelE d.wheel := by
 unfold insideE insX
 by_cases h : levB d.home = false ∨ d.low < 0 ∨ d.high < d.low ∨ topB d.bits < d.high
 · rw [if_pos h, if_pos h]; rfl
 rw [if_neg h, if_neg h]; rfl
theorem zue (q : Nat) (d : FeatD) : ∀ r ∈ insR q d, ∀ args W, (callFunc r.K args).run Tryz.prog W = .ok (.enter r.K args) W := by
 intro r hr
 simp only [insR, List.mem_cons, List.not_mem_nil, or_false] at hr
 rcases hr with rfl | rfl
 · exact enters_of Tryz.func380 (by kernel_rfl) rfl
 exact enters_of Tryz.func382 (by kernel_rfl) rfl
theorem zrx (q : Nat) (x : FeatD × Value) (w : World) (h : RowAt w q 161 (featA x)) (h8 : x.1.bits = 8 ∨ x.1.bits = 16) :
  ∀ j r, (insR q x.1)[j]? = some r → RulesOk (insR q x.1) j → ∀ W, Below w.heap.size w W → Calls Tryz.prog r.K r.caps W fun e w' => e = .returned (.bool r.bad) ∧ Below W.heap.size W w' := by
 intro j r hr _ W hb
 match j, hr with
 | 0, hr => cases hr; exact zxk q x W (h.run hb)
 | 1, hr => cases hr; exact zyk q x W (h.run hb) h8
 | j + 2, hr => simp [insR] at hr
theorem zng (x : FeatD × Value) (w : World) (hx : RFeat w x) (h8 : x.1.bits = 8 ∨ x.1.bits = 16) : Calls Tryz.prog 368 #[.agg (featA x)] w fun e w' => e = .returned (.int .i64 (insideE x.1)) ∧ Below w.heap.size w w' := by
 have hmf : ∀ (fn : Fn) (first cap : Array Value) (w : World), (Instr.makeFunc fn first cap).run Tryz.prog w = .ok (.func fn first cap) w := fun _ _ _ _ => rfl
 have hb2 : Below w.heap.size w ((w.alloc (.cells (featA x) 161)).alloc (.cells (genL ruleA (insR w.heap.size x.1)).toArray 378)) := bel
 have r2 : RowAt ((w.alloc (.cells (featA x) 161)).alloc (.cells (genL ruleA (insR w.heap.size x.1)).toArray 378)) (w.heap.size + 1) 378 (genL ruleA (insR w.heap.size x.1)).toArray := RowAt.mk (by simp) rfl
 have r1 : RowAt ((w.alloc (.cells (featA x) 161)).alloc (.cells (genL ruleA (insR w.heap.size x.1)).toArray 378)) w.heap.size 161 (featA x) := RowAt.alloc (RowAt.mk rfl rfl) _
 have C := hid (zd6 _ (insR w.heap.size x.1) _ (ze1 (cap := 2) _ r2 rfl (by simp [insR]) (by simp [insR])) (zue _ _) (zrx _ _ _ r1 h8))
 rw [ztv] at C
 have D := hid (fun (W : World) (hb : Below w.heap.size w W) => zpa x.2 x.1.wheel W (hx.1.run hb) hx.2.1 hx.2.2)
 rw [zku]
 generalize hu : insX x.1 = u at C ⊢
 generalize hv : wheelE x.1.wheel = z at D ⊢
 have HB2 := hid hb2
 have R1 := hid r1
 clear hb2 r2 r1 hu hv hx h8
 obtain ⟨⟨attr, bits, coarse, fine, curve, home, low, high, snap, wheel⟩, v⟩ := x
 simp only [featA] at R1 ⊢
 by_cases hu0 : u = 0
 · subst hu0
   rw [if_neg (by simp)]
   go_enter Tryz.func368, Tryz.ntmps368
   go_wp2_with fail
   refine C.out.mono ?_
   rintro e w1 ⟨rfl, hb1⟩
   have r1 := R1.out.run hb1
   obtain ⟨x1, x2, x3, x4, x5, x6⟩ := zaa r1
   have hbw := hid (HB2.out.trans (hb1.mono HB2.out.size))
   clear C hb1
   go_wp2_with fail
   refine (D.out _ hbw.out).mono ?_
   rintro e w2 ⟨rfl, hb3⟩
   have hbe := hid (hbw.out.trans (hb3.mono hbw.out.size))
   go_wp2
   go_ret
   exact ⟨rfl, hbe.out⟩
 rw [if_pos hu0]
 have hu1 : (u == 0) = false := by simpa using hu0
 go_enter Tryz.func368, Tryz.ntmps368
 go_wp2_with fail
 refine C.out.mono ?_
 rintro e w1 ⟨rfl, hb1⟩
 have hbw := hid (HB2.out.trans (hb1.mono HB2.out.size))
 go_wp2
 go_ret
 exact ⟨rfl, hbw.out⟩
theorem zts (x : FeatD × Value) (n : Int) (w : World) (hx : RFeat w x) (h8 : x.1.bits = 8 ∨ x.1.bits = 16) : Calls Tryz.prog 343 #[.agg (featA x), .int .i64 n] w fun e w' => e = .returned (.int .i64 (innerE n x.1)) ∧ Below w.heap.size w w' := by
 have hb2 : Below w.heap.size w (w.alloc (.cells (featA x) 161)) := bel
 have C := hid (zng x _ (za6 _ _ _ hb2 hx) h8)
 have HB2 := hid hb2
 clear hb2 hx h8
 rw [innerE]
 generalize hu : insideE x.1 = u at C ⊢
 clear hu
 obtain ⟨⟨attr, bits, coarse, fine, curve, home, low, high, snap, wheel⟩, v⟩ := x
 simp only [featA] at C HB2 ⊢
 by_cases c0 : curve < 0
 · rw [if_pos (.inl c0)]
   go_enter Tryz.func343, Tryz.ntmps343
   go_wp2
   go_ret
   exact ⟨rfl, bel⟩
 by_cases c1 : n < curve
 · rw [if_pos (.inr c1)]
   go_enter Tryz.func343, Tryz.ntmps343
   go_wp2
   go_ret
   exact ⟨rfl, bel⟩
 rw [if_neg (by omega)]
 go_enter Tryz.func343, Tryz.ntmps343
 go_wp2_with fail
 refine C.out.mono ?_
 rintro e w1 ⟨rfl, hb1⟩
 go_wp2
 go_ret
 exact ⟨rfl, HB2.out.trans (hb1.mono HB2.out.size)⟩
def attrL (p : List FeatD) : List Int := p.map FeatD.attr
def usedL (p : List FeatD) : List Int := p.flatMap offsL
theorem zya (p : List FeatD) (a : Int) : ((attrL p).any fun m => decide (a = m)) = p.any fun q => decide (q.attr = a) := by
 rw [attrL, List.any_map]
 congr 1
 funext q
 simp [eq_comm]
theorem zrj (p : List FeatD) (a : Int) : ((usedL p).any fun m => decide (a = m)) = usedB p a := by
 rw [usedL, usedB, List.any_flatMap]
 congr 1
 funext q
 unfold offsL
 by_cases h : q.bits = 16
 · simp [h, eq_comm]
 simp [h, eq_comm]
def featX (foot : Int) (p : List FeatD) (d : FeatD) : Int :=
 if decide (d.attr < 0 ∨ 15 ≤ d.attr) = true then 1 else if ((attrL p).any fun m => decide (d.attr = m)) = true then 7 else if decide (d.bits ≠ 8 ∧ d.bits ≠ 16) = true then 1
 else if ((offsL d).any fun n => decide (n < 0 ∨ foot ≤ n)) = true then 2 else if decide (d.bits = 8 ∧ d.fine ≠ 0) = true then 3
 else if ((offsL d).any fun n => (usedL p).any fun m => decide (n = m)) = true then 11 else if decide (d.bits = 16 ∧ d.fine = d.coarse) = true then 11 else 0
def featR (q pp mp up : Nat) (pd : ProfD × Value) (p : List FeatD) (d : FeatD) : List Rule :=
 [⟨331, #[.pointer (some ⟨q, 0, none⟩)], 1, decide (d.attr < 0 ∨ 15 ≤ d.attr)⟩,
  ⟨332, #[.pointer (some ⟨mp, 0, none⟩), .pointer (some ⟨q, 0, none⟩)], 7, (attrL p).any fun m => decide (d.attr = m)⟩,
  ⟨333, #[.pointer (some ⟨q, 0, none⟩)], 1, decide (d.bits ≠ 8 ∧ d.bits ≠ 16)⟩,
  ⟨335, #[.pointer (some ⟨q, 0, none⟩), .pointer (some ⟨pp, 0, none⟩)], 2, (offsL d).any fun n => decide (n < 0 ∨ pd.1.foot ≤ n)⟩,
  ⟨339, #[.pointer (some ⟨q, 0, none⟩)], 3, decide (d.bits = 8 ∧ d.fine ≠ 0)⟩,
  ⟨340, #[.pointer (some ⟨q, 0, none⟩), .pointer (some ⟨up, 0, none⟩)], 11, (offsL d).any fun n => (usedL p).any fun m => decide (n = m)⟩,
  ⟨342, #[.pointer (some ⟨q, 0, none⟩)], 11, decide (d.bits = 16 ∧ d.fine = d.coarse)⟩]
theorem zn4 (q pp mp up : Nat) (pd : ProfD × Value) (p : List FeatD) (d : FeatD) : ruleE (featR q pp mp up pd p d) = featX pd.1.foot p d := by
 unfold ruleE featR featX
 simp only [List.find?_cons, List.find?_nil]
 generalize decide (d.attr < 0 ∨ 15 ≤ d.attr) = b1
 generalize ((attrL p).any fun m => decide (d.attr = m)) = b2
 generalize decide (d.bits ≠ 8 ∧ d.bits ≠ 16) = b3
 generalize ((offsL d).any fun n => decide (n < 0 ∨ pd.1.foot ≤ n)) = b4
 generalize decide (d.bits = 8 ∧ d.fine ≠ 0) = b5
 generalize ((offsL d).any fun n => (usedL p).any fun m => decide (n = m)) = b6
 generalize decide (d.bits = 16 ∧ d.fine = d.coarse) = b7
 cases b1 <;> cases b2 <;> cases b3 <;> cases b4 <;> cases b5 <;> cases b6 <;> cases b7 <;> rfl
theorem znr (foot : Int) (d : FeatD) : (((offsL d).any fun n => decide (n < 0 ∨ foot ≤ n)) = true) ↔ (d.coarse < 0 ∨ foot ≤ d.coarse ∨ (d.bits = 16 ∧ (d.fine < 0 ∨ foot ≤ d.fine))) := by
 unfold offsL
 by_cases h : d.bits = 16
 · simp [h, or_assoc]
 simp [h]
theorem zu6 (p : List FeatD) (d : FeatD) : (((offsL d).any fun n => (usedL p).any fun m => decide (n = m)) = true) ↔ (usedB p d.coarse = true ∨ (d.bits = 16 ∧ usedB p d.fine = true)) := by
 simp only [zrj]
 unfold offsL
 by_cases h : d.bits = 16
 · simp [h]
 simp [h]
theorem zg0 (foot n : Int) (p : List FeatD) (d : FeatD) : featE foot n p d = if featX foot p d ≠ 0 then featX foot p d else innerE n d := by
 have e2 := zya p d.attr
 have e4 := znr foot d
 have e6 := zu6 p d
 unfold featE featX
 rw [e2]
 simp only [e4, e6, decide_eq_true_eq]
 by_cases h1 : d.attr < 0 ∨ 15 ≤ d.attr
 · rw [if_pos h1, if_pos h1]; rfl
 rw [if_neg h1, if_neg h1]
 by_cases h2 : (p.any fun q => decide (q.attr = d.attr)) = true
 · rw [if_pos h2, if_pos h2]; rfl
 rw [if_neg h2, if_neg h2]
 by_cases h3 : d.bits ≠ 8 ∧ d.bits ≠ 16
 · rw [if_pos h3, if_pos h3]; rfl
 rw [if_neg h3, if_neg h3]
 by_cases h4 : d.coarse < 0 ∨ foot ≤ d.coarse ∨ (d.bits = 16 ∧ (d.fine < 0 ∨ foot ≤ d.fine))
 · rw [if_pos h4, if_pos h4]; rfl
 rw [if_neg h4, if_neg h4]
 by_cases h5 : d.bits = 8 ∧ d.fine ≠ 0
 · rw [if_pos h5, if_pos h5]; rfl
 rw [if_neg h5, if_neg h5]
 by_cases h6 : usedB p d.coarse = true ∨ (d.bits = 16 ∧ usedB p d.fine = true)
 · rw [if_pos h6, if_pos (by rcases h6 with h | ⟨h, h'⟩; exact .inl h; exact .inr ⟨h, .inl h'⟩)]; rfl
 rw [if_neg h6]
 by_cases h7 : d.bits = 16 ∧ d.fine = d.coarse
 · rw [if_pos h7, if_pos (.inr ⟨h7.1, .inr h7.2⟩)]; rfl
 rw [if_neg h7, if_neg (by
  rintro (h | ⟨h, h' | h'⟩)
  · exact h6 (.inl h)
  · exact h6 (.inr ⟨h, h'⟩)
  exact h7 ⟨h, h'⟩)]
 rfl
theorem zyl {foot : Int} {p : List FeatD} {d : FeatD} (h : featX foot p d = 0) : (d.bits = 8 ∨ d.bits = 16) ∧ ((attrL p).any fun m => decide (d.attr = m)) = false ∧ ∀ j o, (offsL d)[j]? = some o → ((usedL p ++ (offsL d).take j).any fun m => decide (o = m)) = false := by
 unfold featX at h
 split at h
 · cases h
 split at h
 · cases h
 rename_i h2
 split at h
 · cases h
 rename_i h3
 split at h
 · cases h
 split at h
 · cases h
 split at h
 · cases h
 rename_i h6
 split at h
 · cases h
 rename_i h7
 refine ⟨?_, by cases hc : (attrL p).any fun m => decide (d.attr = m) with | false => rfl | true => exact absurd hc h2, ?_⟩
 · simp at h3
   by_cases h8 : d.bits = 8
   · exact .inl h8
   exact .inr (h3 h8)
 intro j o ho
 rw [List.any_append]
 have h9 : ((usedL p).any fun m => decide (o = m)) = false := by
   cases hc : (usedL p).any fun m => decide (o = m) with
   | false => rfl
   | true => exact absurd (List.any_eq_true.2 ⟨o, List.mem_of_getElem? ho, hc⟩) h6
 rw [h9, Bool.false_or]
 unfold offsL at ho ⊢
 by_cases hb : d.bits = 16
 · rw [if_pos hb] at ho ⊢
   have h8 : ¬ d.fine = d.coarse := fun e => h7 (by simp [hb, e])
   match j, ho with
   | 0, ho => simp
   | 1, ho => cases ho; simp [h8]
   | j + 2, ho => simp at ho
 rw [if_neg hb] at ho ⊢
 match j, ho with
 | 0, ho => simp
 | j + 1, ho => simp at ho
theorem ztd (q pp mp up : Nat) (pd : ProfD × Value) (p : List FeatD) (d : FeatD) : ∀ r ∈ featR q pp mp up pd p d, ∀ args W, (callFunc r.K args).run Tryz.prog W = .ok (.enter r.K args) W := by
 intro r hr
 simp only [featR, List.mem_cons, List.not_mem_nil, or_false] at hr
 rcases hr with rfl | rfl | rfl | rfl | rfl | rfl | rfl
 · exact enters_of Tryz.func331 (by kernel_rfl) rfl
 · exact enters_of Tryz.func332 (by kernel_rfl) rfl
 · exact enters_of Tryz.func333 (by kernel_rfl) rfl
 · exact enters_of Tryz.func335 (by kernel_rfl) rfl
 · exact enters_of Tryz.func339 (by kernel_rfl) rfl
 · exact enters_of Tryz.func340 (by kernel_rfl) rfl
 exact enters_of Tryz.func342 (by kernel_rfl) rfl
theorem zma (q pp mp up mb ub : Nat) (pd : ProfD × Value) (p : List FeatD) (x : FeatD × Value) (w : World) (h : RowAt w q 161 (featA x)) (hp : RowAt w pp 89 (profA pd)) (hm : RowAt w mp 399 #[.map (some mb)]) (hu : RowAt w up 399 #[.map (some ub)]) (ha : MapAt kI w mb (onB (attrL p))) (hs : MapAt kI w ub (onB (usedL p))) :
  ∀ j r, (featR q pp mp up pd p x.1)[j]? = some r → RulesOk (featR q pp mp up pd p x.1) j → ∀ W, Below w.heap.size w W → Calls Tryz.prog r.K r.caps W fun e w' => e = .returned (.bool r.bad) ∧ Below W.heap.size W w' := by
 intro j r hr _ W hb
 match j, hr with
 | 0, hr => cases hr; exact zsa q x W (h.run hb)
 | 1, hr => cases hr; exact zxx mp mb q _ x W (hm.run hb) (ha.run hb) (h.run hb)
 | 2, hr => cases hr; exact zsg q x W (h.run hb)
 | 3, hr => cases hr; exact zga pp q x pd W (h.run hb) (hp.run hb)
 | 4, hr => cases hr; exact zt9 q x W (h.run hb)
 | 5, hr => cases hr; exact zf2 up ub q x (usedL p) W (h.run hb) (hu.run hb) (hs.run hb)
 | 6, hr => cases hr; exact zqx q x W (h.run hb)
 | j + 7, hr => simp [featR] at hr
theorem zv3 {b : Nat} {w w' : World} (hu : Upd b w w') {p : Addr} (hlt : p.block < w.heap.size) (hne : ¬ p.block = b) : w'.cell? p = w.cell? p := World.cell?_of_block (w := w) (hu.block _ hlt (by simp; omega))
theorem zlb {γ : Type} {κ : γ → Value} {w : World} {b i : Nat} {l : List (γ × Value)} (h : MapAt κ w b l) : w.cell? ⟨b, i, none⟩ = none := by
 unfold MapAt at h
 simp [World.cell?, h]
theorem zyh {l : List FeatD} {k : Nat} {d : FeatD} (h : l[k]? = some d) : attrL (l.take (k + 1)) = attrL (l.take k) ++ [d.attr] := by rw [zaf h]; simp [attrL]
theorem zvt {l : List FeatD} {k : Nat} {d : FeatD} (h : l[k]? = some d) : usedL (l.take (k + 1)) = usedL (l.take k) ++ offsL d := by rw [zaf h]; simp [usedL]
theorem zrh (d : FeatD) : 0 < (offsL d).length := by unfold offsL; split <;> simp
theorem zwg (pd : ProfD × Value) (n : Int) (w : World) (hy : RProf w pd) : Calls Tryz.prog 305 #[.agg (profA pd), .int .i64 n] w fun e w' => e = .returned (.int .i64 (allB (featE pd.1.foot n) pd.1.feats)) ∧ Below w.heap.size w w' := by
 have hmf : ∀ (fn : Fn) (first cap : Array Value) (w : World), (Instr.makeFunc fn first cap).run Tryz.prog w = .ok (.func fn first cap) w := fun _ _ _ _ => rfl
 have hmm := @run_makeMap Tryz.prog
 obtain ⟨a, cap, hv⟩ := hy.1.shape
 have hml := hy.1.few
 have HV := hid hy.1
 rw [hv] at HV
 have hb0 : Below w.heap.size w (((((w.alloc (.cells (profA pd) 89)).alloc (.map #[] 0)).alloc (.map #[] 0)).alloc (.cells #[.map (some (w.heap.size + 1))] 399)).alloc (.cells #[.map (some (w.heap.size + 2))] 399)) := bel
 have H0 : RowAt (((((w.alloc (.cells (profA pd) 89)).alloc (.map #[] 0)).alloc (.map #[] 0)).alloc (.cells #[.map (some (w.heap.size + 1))] 399)).alloc (.cells #[.map (some (w.heap.size + 2))] 399)) w.heap.size 89 (profA pd) := RowAt.alloc (RowAt.alloc (RowAt.alloc (RowAt.alloc (RowAt.mk rfl rfl) _) _) _) _
 have H3 : RowAt (((((w.alloc (.cells (profA pd) 89)).alloc (.map #[] 0)).alloc (.map #[] 0)).alloc (.cells #[.map (some (w.heap.size + 1))] 399)).alloc (.cells #[.map (some (w.heap.size + 2))] 399)) (w.heap.size + 3) 399 #[.map (some (w.heap.size + 1))] := RowAt.alloc (RowAt.mk (by simp) rfl) _
 have H4 : RowAt (((((w.alloc (.cells (profA pd) 89)).alloc (.map #[] 0)).alloc (.map #[] 0)).alloc (.cells #[.map (some (w.heap.size + 1))] 399)).alloc (.cells #[.map (some (w.heap.size + 2))] 399)) (w.heap.size + 4) 399 #[.map (some (w.heap.size + 2))] := RowAt.mk (by simp) rfl
 have M1 : MapAt kI (((((w.alloc (.cells (profA pd) 89)).alloc (.map #[] 0)).alloc (.map #[] 0)).alloc (.cells #[.map (some (w.heap.size + 1))] 399)).alloc (.cells #[.map (some (w.heap.size + 2))] 399)) (w.heap.size + 1) (onB (usedL [])) := mapNew (Below.alloc (Below.alloc (Below.alloc (Below.refl _ _) (Nat.le_refl _) _) (by simp) _) (by simp) _) (by simp)
 have M2 : MapAt kI (((((w.alloc (.cells (profA pd) 89)).alloc (.map #[] 0)).alloc (.map #[] 0)).alloc (.cells #[.map (some (w.heap.size + 1))] 399)).alloc (.cells #[.map (some (w.heap.size + 2))] 399)) (w.heap.size + 2) (onB (attrL [])) := mapNew (Below.alloc (Below.alloc (Below.refl _ _) (Nat.le_refl _) _) (by simp) _) (by simp)
 have HZ := hid (And.intro H0 (And.intro H3 (And.intro H4 (And.intro M1 (And.intro M2 hb0)))))
 clear H0 H3 H4 M1 M2 hb0 hy
 generalize hl : pd.1.feats = l at HV hml hv ⊢
 clear hl
 have hpd : profA pd = #[.string pd.1.name, .int .i64 pd.1.foot, .int .i64 pd.1.watts, pd.2] := rfl
 rw [hpd]
 rw [hv]
 go_enter Tryz.func305, Tryz.ntmps305
 go_wp2
 go_loopw [18] (fun i wr => ∃ k : Nat, i = .int .i64 k ∧ Hid (LoopB (featE pd.1.foot n) l k ∧ RowAt wr w.heap.size 89 (profA pd) ∧ RowAt wr (w.heap.size + 3) 399 #[.map (some (w.heap.size + 1))] ∧ RowAt wr (w.heap.size + 4) 399 #[.map (some (w.heap.size + 2))] ∧ MapAt kI wr (w.heap.size + 1) (onB (usedL (l.take k))) ∧ MapAt kI wr (w.heap.size + 2) (onB (attrL (l.take k))) ∧ Below w.heap.size w wr)) (fun i _ => l.length - (intOf i).toNat)
 case atStart => exact ⟨0, rfl, hid ⟨zam _ _, by have h := HZ.out; rw [hpd, hv] at h; simpa [hpd, hv] using h⟩⟩
 case round =>
  obtain ⟨k, rfl, hh⟩ := hrel
  have hk := hh.out.1.2.1
  obtain ⟨hL, hR0, hR3, hR4, hM1, hM2, hbw⟩ := hh.out
  have HH := hid hh
  have hbs := hbw.size
  by_cases hlt : k < l.length
  · have hlt3 : (k : Int) < (l.length : Int) := by omega
    obtain ⟨d, hd⟩ : ∃ d, l[k]? = some d := ⟨_, List.getElem?_eq_getElem hlt⟩
    obtain ⟨y, g, off, cap', he, hg, hcc⟩ := HV.out.at_ (by decide) za6 hd
    cases he
    obtain ⟨hcl, hrf⟩ := hcc wr hbw
    have hys : ∃ a c, y = .slice a d.wheel.length c := hrf.1.shape
    obtain ⟨ya, yc, rfl⟩ := hys
    have e0 : wr.cell? ⟨g, off + k * 10, none⟩ = some (.int .i64 d.attr) := hcl 0 (by decide)
    have e1 : wr.cell? ⟨g, off + k * 10 + 1, none⟩ = some (.int .i64 d.bits) := hcl 1 (by decide)
    have e2 : wr.cell? ⟨g, off + k * 10 + 2, none⟩ = some (.int .i64 d.coarse) := hcl 2 (by decide)
    have e3 : wr.cell? ⟨g, off + k * 10 + 3, none⟩ = some (.int .i64 d.fine) := hcl 3 (by decide)
    have e4 : wr.cell? ⟨g, off + k * 10 + 4, none⟩ = some (.int .i64 d.curve) := hcl 4 (by decide)
    have e5 : wr.cell? ⟨g, off + k * 10 + 5, none⟩ = some (.int .i64 d.home) := hcl 5 (by decide)
    have e6 : wr.cell? ⟨g, off + k * 10 + 6, none⟩ = some (.int .i64 d.low) := hcl 6 (by decide)
    have e7 : wr.cell? ⟨g, off + k * 10 + 7, none⟩ = some (.int .i64 d.high) := hcl 7 (by decide)
    have e8 : wr.cell? ⟨g, off + k * 10 + 8, none⟩ = some (.bool d.snap) := hcl 8 (by decide)
    have e9 : wr.cell? ⟨g, off + k * 10 + 9, none⟩ = some (.slice ya d.wheel.length yc) := hcl 9 (by decide)
    have hgr : g < wr.heap.size := by omega
    have hgn : ¬ g = wr.heap.size := by omega
    have hsz : w.heap.size + 4 < wr.heap.size := lt_of_block hR4
    have HD := hid hd
    have hb3 : Below wr.heap.size wr ((wr.alloc (.cells (featA (d, .slice ya d.wheel.length yc)) 161)).alloc (.cells (genL ruleA (featR wr.heap.size w.heap.size (w.heap.size + 4) (w.heap.size + 3) pd (l.take k) d)).toArray 378)) := bel
    have r1 : RowAt ((wr.alloc (.cells (featA (d, .slice ya d.wheel.length yc)) 161)).alloc (.cells (genL ruleA (featR wr.heap.size w.heap.size (w.heap.size + 4) (w.heap.size + 3) pd (l.take k) d)).toArray 378)) wr.heap.size 161 (featA (d, .slice ya d.wheel.length yc)) := RowAt.alloc (RowAt.mk rfl rfl) _
    have r2 : RowAt ((wr.alloc (.cells (featA (d, .slice ya d.wheel.length yc)) 161)).alloc (.cells (genL ruleA (featR wr.heap.size w.heap.size (w.heap.size + 4) (w.heap.size + 3) pd (l.take k) d)).toArray 378)) (wr.heap.size + 1) 378 (genL ruleA (featR wr.heap.size w.heap.size (w.heap.size + 4) (w.heap.size + 3) pd (l.take k) d)).toArray := RowAt.mk (by simp) rfl
    have C := hid (zd6 _ (featR wr.heap.size w.heap.size (w.heap.size + 4) (w.heap.size + 3) pd (l.take k) d) _ (ze1 (cap := 7) _ r2 rfl (by simp [featR]) (by simp [featR])) (ztd _ _ _ _ _ _ _) (zma _ _ _ _ _ _ pd _ (d, .slice ya d.wheel.length yc) _ r1 (hR0.run hb3) (hR4.run hb3) (hR3.run hb3) (hM2.run hb3) (hM1.run hb3)))
    rw [zn4] at C
    have HB3 := hid (And.intro hb3 r1)
    have D := hid (fun (W : World) (hb : Below wr.heap.size wr W) (h8 : d.bits = 8 ∨ d.bits = 16) => zts (d, .slice ya d.wheel.length yc) n W (za6 _ _ _ hb hrf) h8)
    obtain ⟨x, hx⟩ : ∃ x, featX pd.1.foot (l.take k) d = x := ⟨_, rfl⟩
    rw [hx] at C
    have HX := hid hx
    clear hx r1 r2 hb3 hcl hrf hcc hd hL hR0 hR3 hR4 hM1 hM2 hbw hh
    by_cases hx0 : x = 0
    · subst hx0
      have HX2 := hid (zyl HX.out)
      obtain ⟨z, hz⟩ : ∃ z, innerE n d = z := ⟨_, rfl⟩
      have HZ2 := hid hz
      have D2 := hid (fun (W : World) (hb : Below wr.heap.size wr W) => D.out W hb HX2.out.1)
      simp only [hz] at D2
      clear hz D
      by_cases hz0 : z = 0
      · subst hz0
        have hgo := hid (zah HH.out.1 HD.out (by rw [zg0, if_neg (by simp [HX.out])]; exact HZ2.out))
        go_wp2_with fail
        refine C.out.mono ?_
        rintro e w1 ⟨rfl, hb1⟩
        have hb4 := hid (HB3.out.1.trans (hb1.mono HB3.out.1.size))
        have q1 := HB3.out.2.run hb1
        obtain ⟨x1, x2, x3, x4, x5, x6⟩ := zaa q1
        clear C hb1 e0 e1 e2 e3 e4 e5 e6 e7 e8 e9
        simp only [featA] at x1 x2 x3 x4 x5 x6
        go_wp2_with fail
        refine (D2.out _ hb4.out).mono ?_
        rintro e w2 ⟨rfl, hb2⟩
        have hb5 := hid (hb4.out.trans (hb2.mono hb4.out.size))
        have q2 := q1.run hb2
        have hq2 := hb5.out.size
        have m2 := HH.out.2.2.2.2.2.1.run hb5.out
        obtain ⟨w3, hup, hma, hu⟩ := zlf m2 d.attr HX2.out.2.1
        have hs3 := hu.size
        have q3 := q2.upd hu (by omega)
        have t4 := HH.out.2.2.2.1.run hb5.out
        have t3 := (HH.out.2.2.1.run hb5.out).upd hu (by omega)
        have m3 := (HH.out.2.2.2.2.1.run hb5.out).upd hu (by omega)
        have p3 := (HH.out.2.1.run hb5.out).upd hu (by omega)
        have t43 := t4.upd hu (by omega)
        have hbw3 := hid (zaw (HH.out.2.2.2.2.2.2.trans (hb5.out.mono hbs)) hu (by omega))
        obtain ⟨y1, y2, y3, y4, y5, y6⟩ := zaa t4
        obtain ⟨z1, z2, z3, z4, z5, z6⟩ := zaa q2
        obtain ⟨u1, u2, u3, u4, u5, u6⟩ := zaa q3
        have y7 := y1 0
        have z7 := z1 0
        simp [featA] at y7 z7
        simp only [featA] at z1 z2 z3 z4 z5 z6 u1 u2 u3 u4 u5 u6
        have O := hid (zfk (d, .slice ya d.wheel.length yc) w3)
        have Q := hid (And.intro hma (And.intro t3 (And.intro m3 (And.intro p3 t43))))
        clear x1 x2 x3 x4 x5 x6 hb2 q1 q2 q3 m2 t4 t3 m3 p3 t43 hma y1 z1 D2 hu
        go_wp2_with fail
        refine O.out.mono ?_
        rintro e w4 ⟨⟨v1, rfl, hv1⟩, hb6⟩
        rcases hv1 with ⟨h0, _⟩ | ⟨h0, h1, g2, off2, cap2, rfl, hlt2, hc2⟩
        · exact absurd h0 (by have := zrh d; omega)
        have hgm : ¬ g2 = w.heap.size + 1 := by
         intro e
         subst e
         have := hc2 0 (by omega)
         rw [zlb (Q.out.2.2.1.run hb6)] at this
         have h9 := za2 (k := 0) (i := 0) (by decide) hc2 h0 (by decide)
         rw [zlb (Q.out.2.2.1.run hb6)] at h9
         simp [intC] at h9
        have HO := hid (fun (j : Nat) (o : Int) (ho : (offsL d)[j]? = some o) => (show w4.cell? ⟨g2, off2 + j, none⟩ = some (.int .i64 o) from by
         have hj := (List.getElem?_eq_some_iff.1 ho).1
         have h9 := za2 (i := 0) (by decide) hc2 j hj (by decide)
         rw [List.getElem?_eq_getElem hj] at ho
         cases ho
         simpa [intC] using h9))
        have hb6s := hb6.size
        have Q6 := hid (And.intro (Q.out.1.run hb6) (And.intro (Q.out.2.1.run hb6) (And.intro (Q.out.2.2.1.run hb6) (And.intro (Q.out.2.2.2.1.run hb6) (And.intro (Q.out.2.2.2.2.run hb6) (hbw3.out.trans (hb6.mono hbw3.out.size)))))))
        have hbs4 := Q6.out.2.2.2.2.2.size
        clear hc2 Q hbw3 hb6 O u1 u2 u3 u4 u5 u6 z2 z3 z4 z5 z6
        generalize hos : (offsL d).length = m at h0 h1
        go_wp2
        go_loopw [53] (fun i wz => ∃ j : Nat, j ≤ m ∧ i = .int .i64 j ∧ Hid (MapAt kI wz (w.heap.size + 1) (onB (usedL (l.take k) ++ (offsL d).take j)) ∧ Upd (w.heap.size + 1) w4 wz)) (fun i _ => m - (intOf i).toNat)
        case atStart => exact ⟨0, Nat.zero_le _, rfl, hid ⟨by simpa using Q6.out.2.2.1, za5 _ _⟩⟩
        case round =>
         obtain ⟨j, hj, rfl, hq⟩ := hrel
         have hqs := hq.out.2.size
         by_cases hjl : j < m
         · have hjl3 : (j : Int) < (m : Int) := by omega
           obtain ⟨o, ho⟩ : ∃ o, (offsL d)[j]? = some o := ⟨_, List.getElem?_eq_getElem (by omega)⟩
           have f0 := (zv3 hq.out.2 (p := ⟨g2, off2 + j, none⟩) hlt2 hgm).trans (HO.out j o ho)
           have hgw : g2 < wr.heap.size := by omega
           have tz := Q6.out.2.1.upd hq.out.2 (by omega)
           obtain ⟨y1, y2, y3, y4, y5, y6⟩ := zaa tz
           have y7 := y1 0
           simp at y7
           obtain ⟨w5, hup5, hma5, hu5⟩ := zlf hq.out.1 o (HX2.out.2.2 j o ho)
           have hnx := hid (And.intro (show MapAt kI w5 (w.heap.size + 1) (onB (usedL (l.take k) ++ (offsL d).take (j + 1))) from by rw [zaf ho, ← List.append_assoc]; exact hma5) (zbh hq.out.2 hu5))
           clear y1 tz hma5 hu5 ho
           go_wp2
           go_roundw
           case rel => exact ⟨j + 1, by omega, by go_num, hnx⟩
           case measure => simp [intOf]; omega
         obtain rfl : j = m := by omega
         have hfin := hid (And.intro (show MapAt kI _ (w.heap.size + 1) (onB (usedL (l.take (k + 1)))) from by rw [zvt HD.out]; have := hq.out.1; rwa [← hos, List.take_length] at this) (show MapAt kI _ (w.heap.size + 2) (onB (attrL (l.take (k + 1)))) from by rw [zyh HD.out]; exact Q6.out.1.upd hq.out.2 (by omega)))
         go_wp2
         go_roundw
         case rel => exact ⟨k + 1, by go_num, hid ⟨hgo.out, Q6.out.2.2.2.1.upd hq.out.2 (by omega), Q6.out.2.1.upd hq.out.2 (by omega), Q6.out.2.2.2.2.1.upd hq.out.2 (by omega), hfin.out.1, hfin.out.2, zaw Q6.out.2.2.2.2.2 hq.out.2 (by omega)⟩⟩
         case measure => simp [intOf]; omega
      have hz1 : (z == 0) = false := by simpa using hz0
      have hst := hid (zad HH.out.1 HD.out (by rw [zg0, if_neg (by simp [HX.out])]; exact HZ2.out) hz0)
      go_wp2_with fail
      refine C.out.mono ?_
      rintro e w1 ⟨rfl, hb1⟩
      have hb4 := hid (HB3.out.1.trans (hb1.mono HB3.out.1.size))
      have q1 := HB3.out.2.run hb1
      obtain ⟨x1, x2, x3, x4, x5, x6⟩ := zaa q1
      clear C hb1 e0 e1 e2 e3 e4 e5 e6 e7 e8 e9 q1
      simp only [featA] at x1 x2 x3 x4 x5 x6
      go_wp2_with fail
      refine (D2.out _ hb4.out).mono ?_
      rintro e w2 ⟨rfl, hb2⟩
      have hbe := hid (HH.out.2.2.2.2.2.2.trans ((hb4.out.trans (hb2.mono hb4.out.size)).mono hbs))
      go_wp2
      go_ret
      exact ⟨zab hst.out.symm, hbe.out⟩
    have hx1 : (x == 0) = false := by simpa using hx0
    have hst := hid (zad HH.out.1 HD.out (by rw [zg0, HX.out]; exact if_pos hx0) hx0)
    go_wp2_with fail
    refine C.out.mono ?_
    rintro e w1 ⟨rfl, hb1⟩
    have hbe := hid (HH.out.2.2.2.2.2.2.trans ((HB3.out.1.trans (hb1.mono HB3.out.1.size)).mono hbs))
    go_wp2
    go_ret
    exact ⟨zab hst.out.symm, hbe.out⟩
  obtain rfl : k = l.length := by omega
  have hen := hid (zan hh.out.1)
  have hbe := hid hbw
  clear HH hh hL hR0 hR3 hR4 hM1 hM2 hbw
  go_wp2
  go_ret
  exact ⟨zab hen.out.symm, hbe.out⟩
theorem zvr (q : Nat) (x : ProfD × Value) (w : World) (h : RowAt w q 89 (profA x)) (hs : x.1.name.size ≤ 9223372036854775806) :
  Calls Tryz.prog 300 #[.pointer (some ⟨q, 0, none⟩)] w fun e w' => e = .returned (.bool (!nameB x.1.name)) ∧ Below w.heap.size w w' := by
 have C := hid (zij x.1.name w hs)
 clear hs
 obtain ⟨⟨name, foot, watts, feats⟩, v⟩ := x
 simp only [profA] at h C ⊢
 obtain ⟨x1, x2, x3, x4, x5, x6⟩ := zaa h
 generalize nameB name = b at C ⊢
 go_enter Tryz.func300, Tryz.ntmps300
 go_wp2_with fail
 refine C.out.mono ?_
 rintro e w1 ⟨rfl, hb⟩
 go_wp2
 go_ret
 exact ⟨rfl, hb⟩
theorem znq (q : Nat) (x : ProfD × Value) (w : World) (h : RowAt w q 89 (profA x)) :
   Calls Tryz.prog 302 #[.pointer (some ⟨q, 0, none⟩)] w fun e w' => e = .returned (.bool (decide (x.1.foot < 1 ∨ 512 < x.1.foot))) ∧ Below w.heap.size w w' := by
 obtain ⟨⟨name, foot, watts, feats⟩, v⟩ := x
 simp only [profA] at h
 obtain ⟨x1, x2, x3, x4, x5, x6⟩ := zaa h
 by_cases c0 : foot < 1
 · skip
   go_enter Tryz.func302, Tryz.ntmps302
   go_wp2
   go_ret
   exact ⟨zac (by simp [c0]), bel⟩
 skip
 by_cases c1 : 512 < foot
 · skip
   go_enter Tryz.func302, Tryz.ntmps302
   go_wp2
   go_ret
   exact ⟨zac (by simp [c0, c1]), bel⟩
 skip
 go_enter Tryz.func302, Tryz.ntmps302
 go_wp2
 go_ret
 exact ⟨zac (by simp [c0, c1]), bel⟩
theorem ztw (q : Nat) (x : ProfD × Value) (w : World) (h : RowAt w q 89 (profA x)) :
   Calls Tryz.prog 303 #[.pointer (some ⟨q, 0, none⟩)] w fun e w' => e = .returned (.bool (decide (x.1.watts < 0 ∨ 1048576 < x.1.watts))) ∧ Below w.heap.size w w' := by
 obtain ⟨⟨name, foot, watts, feats⟩, v⟩ := x
 simp only [profA] at h
 obtain ⟨x1, x2, x3, x4, x5, x6⟩ := zaa h
 by_cases c0 : watts < 0
 · skip
   go_enter Tryz.func303, Tryz.ntmps303
   go_wp2
   go_ret
   exact ⟨zac (by simp [c0]), bel⟩
 skip
 by_cases c1 : 1048576 < watts
 · skip
   go_enter Tryz.func303, Tryz.ntmps303
   go_wp2
   go_ret
   exact ⟨zac (by simp [c0, c1]), bel⟩
 skip
 go_enter Tryz.func303, Tryz.ntmps303
 go_wp2
 go_ret
 exact ⟨zac (by simp [c0, c1]), bel⟩
theorem zud (q n cap : Nat) (a : Option Addr) (name : ByteArray) (foot watts : Int) (w : World) (h : RowAt w q 89 #[.string name, .int .i64 foot, .int .i64 watts, .slice a n cap]) :
   Calls Tryz.prog 304 #[.pointer (some ⟨q, 0, none⟩)] w fun e w' => e = .returned (.bool (decide (16 < n))) ∧ Below w.heap.size w w' := by
 obtain ⟨x1, x2, x3, x4, x5, x6⟩ := zaa h
 by_cases c0 : 16 < n
 · have c1 : (16 : Int) < (n : Int) := by omega
   go_enter Tryz.func304, Tryz.ntmps304
   go_wp2
   go_ret
   exact ⟨zac (by simp [c0]), bel⟩
 have c1 : ¬ (16 : Int) < (n : Int) := by omega
 go_enter Tryz.func304, Tryz.ntmps304
 go_wp2
 go_ret
 exact ⟨zac (by simp [c0]), bel⟩
def profR (q : Nat) (d : ProfD) : List Rule :=
 [⟨300, #[.pointer (some ⟨q, 0, none⟩)], 8, !nameB d.name⟩, ⟨302, #[.pointer (some ⟨q, 0, none⟩)], 2, decide (d.foot < 1 ∨ 512 < d.foot)⟩,
  ⟨303, #[.pointer (some ⟨q, 0, none⟩)], 2, decide (d.watts < 0 ∨ 1048576 < d.watts)⟩, ⟨304, #[.pointer (some ⟨q, 0, none⟩)], 5, decide (16 < d.feats.length)⟩]
def profX (d : ProfD) : Int := if nameB d.name = false then 8 else if d.foot < 1 ∨ 512 < d.foot ∨ d.watts < 0 ∨ 1048576 < d.watts then 2 else if 16 < d.feats.length then 5 else 0
theorem zur (q : Nat) (d : ProfD) : ruleE (profR q d) = profX d := by
 unfold ruleE profR profX
 simp only [List.find?_cons, List.find?_nil]
 cases h1 : nameB d.name with
 | false => simp
 | true =>
   by_cases h2 : d.foot < 1 ∨ 512 < d.foot
   · have h9 : d.foot < 1 ∨ 512 < d.foot ∨ d.watts < 0 ∨ 1048576 < d.watts := by omega
     simp only [if_pos h9]
     simp [h2]
   by_cases h3 : d.watts < 0 ∨ 1048576 < d.watts
   · simp [h2, h3]
   by_cases h4 : 16 < d.feats.length <;> simp [h2, h3, h4]
theorem zjt (cs : List (List Pt)) (d : ProfD) : profE cs d = if curvesE cs ≠ 0 then curvesE cs else if profX d ≠ 0 then profX d else allB (featE d.foot cs.length) d.feats := by
 unfold profE profX
 by_cases h0 : curvesE cs ≠ 0
 · rw [if_pos h0, if_pos h0]
 rw [if_neg h0, if_neg h0]
 by_cases h1 : nameB d.name = false
 · rw [if_pos h1, if_pos h1]; rfl
 rw [if_neg h1, if_neg h1]
 by_cases h2 : d.foot < 1 ∨ 512 < d.foot ∨ d.watts < 0 ∨ 1048576 < d.watts
 · rw [if_pos h2, if_pos h2]; rfl
 rw [if_neg h2, if_neg h2]
 by_cases h3 : 16 < d.feats.length
 · rw [if_pos h3, if_pos h3]; rfl
 rw [if_neg h3, if_neg h3]
 rfl
theorem zro (q : Nat) (d : ProfD) : ∀ r ∈ profR q d, ∀ args W, (callFunc r.K args).run Tryz.prog W = .ok (.enter r.K args) W := by
 intro r hr
 simp only [profR, List.mem_cons, List.not_mem_nil, or_false] at hr
 rcases hr with rfl | rfl | rfl | rfl
 · exact enters_of Tryz.func300 (by kernel_rfl) rfl
 · exact enters_of Tryz.func302 (by kernel_rfl) rfl
 · exact enters_of Tryz.func303 (by kernel_rfl) rfl
 exact enters_of Tryz.func304 (by kernel_rfl) rfl
theorem zoz (q : Nat) (x : ProfD × Value) (a : Option Addr) (cap : Nat) (hx : x.2 = .slice a x.1.feats.length cap) (hs : x.1.name.size ≤ 9223372036854775806) (w : World) (h : RowAt w q 89 (profA x)) :
   ∀ j r, (profR q x.1)[j]? = some r → RulesOk (profR q x.1) j → ∀ W, Below w.heap.size w W → Calls Tryz.prog r.K r.caps W fun e w' => e = .returned (.bool r.bad) ∧ Below W.heap.size W w' := by
 intro j r hr _ W hb
 match j, hr with
 | 0, hr => cases hr; exact zvr q x W (h.run hb) hs
 | 1, hr => cases hr; exact znq q x W (h.run hb)
 | 2, hr => cases hr; exact ztw q x W (h.run hb)
 | 3, hr =>
   cases hr
   have h' := h.run hb
   simp only [profA, hx] at h'
   exact zud q x.1.feats.length cap a x.1.name x.1.foot x.1.watts W h'
 | j + 4, hr => simp [profR] at hr
theorem zoh (pd : ProfD × Value) (v : Value) (cs : List (List Pt)) (w : World) (hy : RProf w pd) (hv : RL 1 curveA RCurve w v cs) : Calls Tryz.prog 267 #[.agg (profA pd), v] w fun e w' => e = .returned (.int .i64 (profE cs pd.1)) ∧ Below w.heap.size w w' := by
 have hmf : ∀ (fn : Fn) (first cap : Array Value) (w : World), (Instr.makeFunc fn first cap).run Tryz.prog w = .ok (.func fn first cap) w := fun _ _ _ _ => rfl
 obtain ⟨fa, fcap, hfv⟩ := hy.1.shape
 obtain ⟨a, cap, rfl⟩ := hv.shape
 have hml := hv.few
 have hb0 : Below w.heap.size w (w.alloc (.cells (profA pd) 89)) := bel
 have r0 := RowAt.new w 89 (profA pd)
 have A := hid (znv (.slice a cs.length cap) cs (w.alloc (.cells (profA pd) 89)) (hv.run zaz hb0))
 have hs := hy.2.2
 have B := hid (fun (W : World) (hb : Below w.heap.size w W) (hr : RowAt W w.heap.size 89 (profA pd)) =>
   And.intro (show Below W.heap.size W (W.alloc (.cells (genL ruleA (profR w.heap.size pd.1)).toArray 378)) from bel)
     (zd6 _ (profR w.heap.size pd.1) _ (ze1 (cap := 4) _ (RowAt.mk (w := W) (b := W.heap.size) (T := 378) rfl rfl) rfl (by simp [profR]) (by simp [profR])) (zro _ _) (zoz _ pd fa fcap hfv hs _ (hr.alloc _))))
 have D := hid (fun (W : World) (hb : Below w.heap.size w W) => zwg pd cs.length W (zap _ _ _ hb hy))
 have R0 := hid (And.intro r0 hb0)
 simp only [zur] at B
 rw [zjt]
 generalize allB (featE pd.1.foot cs.length) pd.1.feats = z at D ⊢
 generalize profX pd.1 = y at B ⊢
 generalize curvesE cs = x at A ⊢
 have hpd : profA pd = #[.string pd.1.name, .int .i64 pd.1.foot, .int .i64 pd.1.watts, .slice fa pd.1.feats.length fcap] := by rw [← hfv]; rfl
 rw [hpd] at A R0 B D ⊢
 clear hv hy r0 hb0 hpd hfv hs
 by_cases hx0 : x = 0
 · subst hx0
   rw [if_neg (by simp)]
   by_cases hy0 : y = 0
   · subst hy0
     rw [if_neg (by simp)]
     go_enter Tryz.func267, Tryz.ntmps267
     go_wp2_with fail
     refine A.out.mono ?_
     rintro e w1 ⟨rfl, hb1⟩
     have hbw := hid (R0.out.2.trans (hb1.mono R0.out.2.size))
     have r1 := hid (R0.out.1.run hb1)
     clear hb1 A
     go_wp2_with fail
     refine (B.out _ hbw.out r1.out).2.mono ?_
     rintro e w2 ⟨rfl, hb2⟩
     have hb3 := (B.out _ hbw.out r1.out).1
     have hb4 := hid (hbw.out.trans ((hb3.trans (hb2.mono hb3.size)).mono hbw.out.size))
     have r2 := r1.out.run (hb3.trans (hb2.mono hb3.size))
     obtain ⟨x1, x2, x3, x4, x5, x6⟩ := zaa r2
     clear hb2 hb3 B hbw
     go_wp2_with fail
     refine (D.out _ hb4.out).mono ?_
     rintro e w3 ⟨rfl, hb5⟩
     have hbe := hid (hb4.out.trans (hb5.mono hb4.out.size))
     go_wp2
     go_ret
     exact ⟨rfl, hbe.out⟩
   have hy1 : (y == 0) = false := by simpa using hy0
   rw [if_pos hy0]
   go_enter Tryz.func267, Tryz.ntmps267
   go_wp2_with fail
   refine A.out.mono ?_
   rintro e w1 ⟨rfl, hb1⟩
   have hbw := hid (R0.out.2.trans (hb1.mono R0.out.2.size))
   have r1 := hid (R0.out.1.run hb1)
   clear hb1 A
   go_wp2_with fail
   refine (B.out _ hbw.out r1.out).2.mono ?_
   rintro e w2 ⟨rfl, hb2⟩
   have hb3 := (B.out _ hbw.out r1.out).1
   have hb4 := hid (hbw.out.trans ((hb3.trans (hb2.mono hb3.size)).mono hbw.out.size))
   go_wp2
   go_ret
   exact ⟨rfl, hb4.out⟩
 have hx1 : (x == 0) = false := by simpa using hx0
 rw [if_pos hx0]
 go_enter Tryz.func267, Tryz.ntmps267
 go_wp2_with fail
 refine A.out.mono ?_
 rintro e w1 ⟨rfl, hb1⟩
 have hbw := hid (R0.out.2.trans (hb1.mono R0.out.2.size))
 go_wp2
 go_ret
 exact ⟨rfl, hbw.out⟩
end Go.Proofs.YtjeigphhepngmaaGreatDoor
