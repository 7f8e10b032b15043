/- -/
import Derived.Test.YtjeigphhepngmaaGreatDoorZv
import Derived.Deep.RegionHeld3
namespace Go.Proofs.YtjeigphhepngmaaGreatDoor
open Go.RowKit
open Go.Lib (hid)
set_option maxHeartbeats 8000000
set_option linter.unusedSimpArgs false
set_option linter.unusedVariables false
set_option maxRecDepth 100000
theorem zo4 (g cap : Nat) (w : World) (hg : g < w.heap.size) (hc0 : w.cell? ⟨g, 0, none⟩ = some (.int .i64 1)) (hc1 : w.cell? ⟨g, 1, none⟩ = some (.string exHead)) :
  Calls Tryz.prog 19 #[.slice (some ⟨g, 0, none⟩) 1 cap] w fun e w' => e = .returned (.tuple #[.agg #[.string ⟨#[]⟩, .slice none 0 0, .slice none 0 0, .slice none 0 0, .slice none 0 0, .slice none 0 0, .slice none 0 0, .slice none 0 0, .slice none 0 0], .int .i64 1, .int .i64 20]) ∧ Below w.heap.size w w' := by
 have hmf : ∀ (fn : Fn) (first cap : Array Value) (w : World), (Instr.makeFunc fn first cap).run Tryz.prog w = .ok (.func fn first cap) w := fun _ _ _ _ => rfl
 have hst : ∀ (W : World) (a : Addr) (fn : Fn) (x y : Array Value), (store a (.func fn x y)).run Tryz.prog W = stored Tryz.prog W a (.func fn x y) .plain := fun W a fn x y => run_store Tryz.prog W a _ .plain rfl
 obtain ⟨W0, hW0⟩ : ∃ W, ((w.alloc (.cells #[.string ⟨#[]⟩, .slice none 0 0, .slice none 0 0, .slice none 0 0, .slice none 0 0, .slice none 0 0, .slice none 0 0, .slice none 0 0, .slice none 0 0] 31)).alloc (.cells #[.string ⟨#[]⟩, .slice none 0 0, .slice none 0 0, .slice none 0 0, .slice none 0 0, .slice none 0 0, .slice none 0 0, .slice none 0 0, .slice none 0 0, .int .i64 0] 101)) = W := ⟨_, rfl⟩
 have z0 : W0.heap.size = w.heap.size + 2 := by rw [← hW0]; simp
 have s0 : RowAt W0 w.heap.size 31 #[.string ⟨#[]⟩, .slice none 0 0, .slice none 0 0, .slice none 0 0, .slice none 0 0, .slice none 0 0, .slice none 0 0, .slice none 0 0, .slice none 0 0] := by rw [← hW0]; exact RowAt.alloc (RowAt.new _ _ _) _
 have b0 : RowAt W0 (w.heap.size + 1) 101 #[.string ⟨#[]⟩, .slice none 0 0, .slice none 0 0, .slice none 0 0, .slice none 0 0, .slice none 0 0, .slice none 0 0, .slice none 0 0, .slice none 0 0, .int .i64 0] := by rw [← hW0]; exact RowAt.mk (by simp) rfl
 have B0 : Below w.heap.size w W0 := by rw [← hW0]; exact bel
 have C1 := hid (zia (w.heap.size + 1) W0)
 obtain ⟨W1, hW1⟩ : ∃ W, W0.alloc (.map (kindsM (w.heap.size + 1)) 11) = W := ⟨_, rfl⟩
 have m1 : W1.heap[W0.heap.size]? = some (.map (kindsM (w.heap.size + 1)) 11) := by rw [← hW1]; exact heap_alloc_new _ _
 have k1 : Below W0.heap.size W0 W1 := by rw [← hW1]; exact bel
 have z1 : W1.heap.size = w.heap.size + 3 := by rw [← hW1]; simp [z0]
 rw [hW1] at C1
 have s1 := s0.run k1
 have b1 := b0.run k1
 have B1 := B0.trans (k1.mono B0.size)
 have hl := fun (W : World) (hb : Below W1.heap.size W1 W) => zj4 (w.heap.size + 1) W0.heap.size W ((hb.block _ (lt_of_block m1)).trans m1)
 have g1 : W1.cell? ⟨g, 0, none⟩ = some (.int .i64 1) ∧ W1.cell? ⟨g, 1, none⟩ = some (.string exHead) := ⟨(B1.cell (p := ⟨g, 0, none⟩) hg).trans hc0, (B1.cell (p := ⟨g, 1, none⟩) hg).trans hc1⟩
 have H1 := hid (And.intro g1 (And.intro s1 (And.intro b1 (And.intro B1 hl))))
 obtain ⟨x1, x2⟩ := g1
 have hl1 := hl (W1.alloc (.cells #[.int .i64 1, .string exHead] 77)) bel
 have Z := hid (And.intro z0 z1)
 clear z0 z1
 have C2 := hid (fun W => zh6 0 1 W)
 clear hW1 s0 b0 B0 s1 b1 B1 hl k1 m1 hg hc0 hc1
 go_enter Tryz.func19, Tryz.ntmps19
 go_wp2_with fail
 clear hW0
 refine C1.out.mono ?_
 rintro e w1 ⟨rfl, rfl⟩
 go_wp2_with fail
 refine wp_loop_rounds 2 ?_
 rw [rounds_succ]
 go_wp2_with fail
 refine (C2.out _).mono ?_
 rintro e w2 ⟨rfl, rfl⟩
 have hf : folB 0 1 = true := rfl
 rw [hf]
 have b2 := H1.out.2.2.1
 obtain ⟨W3, hW3⟩ : ∃ W, ((w1.alloc (.cells #[.int .i64 1, .string exHead] 77)).alloc (.cells #[.func (.func 121) #[.pointer (some ⟨w.heap.size + 1, 0, none⟩)] #[]] 104)) = W := ⟨_, rfl⟩
 have e3 : RowAt W3 w1.heap.size 77 #[.int .i64 1, .string exHead] := by rw [← hW3]; exact RowAt.alloc (RowAt.new _ _ _) _
 have f3 : RowAt W3 (w1.heap.size + 1) 104 #[.func (.func 121) #[.pointer (some ⟨w.heap.size + 1, 0, none⟩)] #[]] := by rw [← hW3]; exact RowAt.mk (by simp) rfl
 have b3 := b2.run (show Below w1.heap.size w1 W3 from by rw [← hW3]; exact bel)
 have B3 := hid (show Below w1.heap.size w1 W3 from by rw [← hW3]; exact bel)
 obtain ⟨y1, y2, y3, y4, y5, y6⟩ := zaa b3
 obtain ⟨k1, k2, k3, k4, k5, k6⟩ := zaa e3
 rw [hW3]
 have HR := hid (And.intro e3 (And.intro f3 b3))
 clear hW3 b2 b3 f3 e3 x1 x2
 go_wp2_with fail
 have e4 := RowAt.far1 (i := 9) (u := .int .i64 0) HR.out.1 (show ¬ w1.heap.size = w.heap.size + 1 from by have := Z.out; omega)
 have f4 := RowAt.far1 (i := 9) (u := .int .i64 0) HR.out.2.1 (show ¬ w1.heap.size + 1 = w.heap.size + 1 from by have := Z.out; omega)
 have b4 : RowAt (W3.setCell ⟨w.heap.size + 1, 9, none⟩ (.int .i64 0)) (w.heap.size + 1) 101 #[.string ⟨#[]⟩, .slice none 0 0, .slice none 0 0, .slice none 0 0, .slice none 0 0, .slice none 0 0, .slice none 0 0, .slice none 0 0, .slice none 0 0, .int .i64 0] := RowAt.set HR.out.2.2 rfl
 have s4 := RowAt.far1 (i := 9) (u := .int .i64 0) (H1.out.2.1.run B3.out) (show ¬ w.heap.size = w.heap.size + 1 from by omega)
 have B4 : Below w.heap.size w (W3.setCell ⟨w.heap.size + 1, 9, none⟩ (.int .i64 0)) := za0 (H1.out.2.2.2.1.trans (B3.out.mono H1.out.2.2.2.1.size)) (by omega)
 have hz4 : (W3.setCell ⟨w.heap.size + 1, 9, none⟩ (.int .i64 0)).heap.size ≥ w.heap.size + 3 := by have := B3.out.size; have := Z.out; simp; omega
 clear hst k1 k2 k3 k4 k5 k6 y1 y2 y3 y4 y5 y6
 generalize W3.setCell ⟨w.heap.size + 1, 9, none⟩ (.int .i64 0) = W4 at e4 f4 b4 s4 B4 hz4 ⊢
 have n4 : RowAt (W4.alloc (.cells #[.int .i64 0] 35)) W4.heap.size 35 #[.int .i64 0] := RowAt.new _ _ _
 have C5 := zk5 w1.heap.size (w1.heap.size + 1) (w.heap.size + 1) 101 1 exHead #[.string ⟨#[]⟩, .slice none 0 0, .slice none 0 0, .slice none 0 0, .slice none 0 0, .slice none 0 0, .slice none 0 0, .slice none 0 0, .slice none 0 0, .int .i64 0] (W4.alloc (.cells #[.int .i64 0] 35)) (RowAt.alloc e4 _) (RowAt.alloc f4 _) (RowAt.alloc b4 _) (by simp) (by decide)
 rw [zep] at C5
 refine (zvj 50 _ W4 (fun wx => Upd (w.heap.size + 1) W4 wx) zkg (C5.mono fun e w' h => ⟨by rw [h.1, if_pos (show (2 : Nat) = exHead.size from rfl)], RowAt.upd n4 h.2.2 (by omega), zji (ze6 (za5 _ _) _) h.2.2⟩)).mono ?_
 rintro e w5 ⟨rfl, wx, hu5, hu6⟩
 have e5 := RowAt.upd (RowAt.upd e4 hu5 (by have := Z.out; omega)) hu6 (by have := lt_of_block e4; omega)
 obtain ⟨k1, k2, k3, k4, k5, k6⟩ := zaa e5
 have s5 := RowAt.upd (RowAt.upd s4 hu5 (by omega)) hu6 (by omega)
 have B5 : Below w.heap.size w w5 := zaw (zaw B4 hu5 (by omega)) hu6 (by omega)
 have H5 := hid (And.intro s5 B5)
 obtain ⟨y1, y2, y3, y4, y5, y6⟩ := zaa s5
 clear hu5 hu6 s5 B5 s4 B4 b4 e4 f4 n4 C5 e5
 go_wp2
 rw [rounds_succ]
 go_wp2
 have hF := RowAt.nine (v0 := .string ⟨#[]⟩) (v1 := .slice none 0 0) (v2 := .slice none 0 0) (v3 := .slice none 0 0) (v4 := .slice none 0 0) (v5 := .slice none 0 0) (v6 := .slice none 0 0) (v7 := .slice none 0 0) (v8 := .slice none 0 0) H5.out.1
 obtain ⟨Wz, hWz⟩ : ∃ W, (((((((((w5.setCell ⟨w.heap.size, 0, none⟩ (.string ⟨#[]⟩)).setCell ⟨w.heap.size, 1, none⟩ (.slice none 0 0)).setCell ⟨w.heap.size, 2, none⟩ (.slice none 0 0)).setCell ⟨w.heap.size, 3, none⟩ (.slice none 0 0)).setCell ⟨w.heap.size, 4, none⟩ (.slice none 0 0)).setCell ⟨w.heap.size, 5, none⟩ (.slice none 0 0)).setCell ⟨w.heap.size, 6, none⟩ (.slice none 0 0)).setCell ⟨w.heap.size, 7, none⟩ (.slice none 0 0)).setCell ⟨w.heap.size, 8, none⟩ (.slice none 0 0)) = W := ⟨_, rfl⟩
 have hB : Below w.heap.size w Wz := by rw [← hWz]; exact zaw H5.out.2 ze8 (Nat.le_refl _)
 rw [hWz] at hF ⊢
 have f0 := zak hF 0
 have f1 := zak hF 1
 have f2 := zak hF 2
 have f3 := zak hF 3
 have f4 := zak hF 4
 have f5 := zak hF 5
 have f6 := zak hF 6
 have f7 := zak hF 7
 have f8 := zak hF 8
 simp only [List.getElem?_toArray] at f0 f1 f2 f3 f4 f5 f6 f7 f8
 refine bodyPost_ret (v := .tuple #[.agg #[.string ⟨#[]⟩, .slice none 0 0, .slice none 0 0, .slice none 0 0, .slice none 0 0, .slice none 0 0, .slice none 0 0, .slice none 0 0, .slice none 0 0], .int .i64 1, .int .i64 20]) ?_ rfl ⟨rfl, hB⟩
 simp [results, Tryz.results19, go_sem, f0, f1, f2, f3, f4, f5, f6, f7, f8]
theorem zqe (w : World) : Calls Tryz.prog 65 #[.string ⟨#[1, 0, 2, 6, 0, 23, 9]⟩] w fun e w' => ∃ g cap, e = .returned (.tuple #[.slice (some ⟨g, 0, none⟩) 1 cap, .int .i64 7, .int .i64 0]) ∧ g < w'.heap.size ∧ 1 ≤ cap ∧ w'.cell? ⟨g, 0, none⟩ = some (.int .i64 1) ∧ w'.cell? ⟨g, 1, none⟩ = some (.string exHead) ∧ ListAt 2 entA w' (.slice (some ⟨g, 0, none⟩) 1 cap) [(1, exHead)] ∧ Below w.heap.size w w' := by
 refine (zg2 ⟨#[1, 0, 2, 6, 0, 23, 9]⟩ w (by decide)).mono ?_
 rintro e w' ⟨v, he, hown, hb, _⟩
 rw [zsz] at he hown
 have hL := zft (S := 2) (f := entA) (l := [(1, exHead)]) (by decide) zgz hown (by decide)
 obtain ⟨a, cap, rfl, hcap⟩ := zc9 hown
 rcases hown.2 with ⟨h0, _⟩ | ⟨g, cap', cur, hv, _, hg, _⟩
 · cases h0
 cases hv
 rcases hL with ⟨h0, _⟩ | ⟨h0, h1, b, off, cap2, hv2, hlt, hc⟩
 · simp at h0
 have hL2 : ListAt 2 entA w' (.slice (some ⟨g, 0, none⟩) 1 cap) [(1, exHead)] := .inr ⟨h0, h1, b, off, cap2, hv2, hlt, hc⟩
 cases hv2
 obtain ⟨c0, c1⟩ := zha hc 0 (1, exHead) rfl
 exact ⟨_, _, he, hlt, hcap, c0, c1, hL2, hb⟩
theorem zut (w : World) : Calls Tryz.prog 24 #[.string ⟨#[1, 0, 2, 6, 0, 23, 9]⟩] w fun e w' => e = .returned (.tuple #[.agg #[.string ⟨#[]⟩, .slice none 0 0, .slice none 0 0, .slice none 0 0, .slice none 0 0, .slice none 0 0, .slice none 0 0, .slice none 0 0, .slice none 0 0], .int .i64 7, .int .i64 20]) ∧ Below w.heap.size w w' := by
 have s0 : RowAt (w.alloc (.cells #[.string ⟨#[]⟩, .slice none 0 0, .slice none 0 0, .slice none 0 0, .slice none 0 0, .slice none 0 0, .slice none 0 0, .slice none 0 0, .slice none 0 0] 31)) w.heap.size 31 #[.string ⟨#[]⟩, .slice none 0 0, .slice none 0 0, .slice none 0 0, .slice none 0 0, .slice none 0 0, .slice none 0 0, .slice none 0 0, .slice none 0 0] := RowAt.new _ _ _
 have B0 : Below w.heap.size w (w.alloc (.cells #[.string ⟨#[]⟩, .slice none 0 0, .slice none 0 0, .slice none 0 0, .slice none 0 0, .slice none 0 0, .slice none 0 0, .slice none 0 0, .slice none 0 0] 31)) := bel
 have C1 := hid (zqe (w.alloc (.cells #[.string ⟨#[]⟩, .slice none 0 0, .slice none 0 0, .slice none 0 0, .slice none 0 0, .slice none 0 0, .slice none 0 0, .slice none 0 0, .slice none 0 0] 31)))
 have H0 := hid (And.intro s0 B0)
 clear s0 B0
 go_enter Tryz.func24, Tryz.ntmps24
 go_wp2_with fail
 refine C1.out.mono ?_
 rintro e w1 ⟨g, cap, rfl, hg, hcap, c0, c1, hL, hb1⟩
 have hcap3 : (1 : Int) ≤ (cap : Int) := by omega
 have s1 := H0.out.1.run hb1
 have B1 := H0.out.2.trans (hb1.mono H0.out.2.size)
 have H1 := hid (And.intro s1 (And.intro B1 hL))
 clear hb1 s1 B1 hL
 go_wp2_with fail
 refine (zo4 g cap w1 hg c0 c1).mono ?_
 rintro e w2 ⟨rfl, hb2⟩
 have hs2 := hb2.size
 have hb2' : Below w1.heap.size w1 (w2.alloc (.cells #[.string ⟨#[]⟩, .slice none 0 0, .slice none 0 0, .slice none 0 0, .slice none 0 0, .slice none 0 0, .slice none 0 0, .slice none 0 0, .slice none 0 0] 31)) := bel
 have H2 := hid (And.intro (H1.out.1.run hb2') (And.intro (H1.out.2.1.trans (hb2'.mono H1.out.2.1.size)) (H1.out.2.2.run hb2')))
 clear hb2 hb2' c0 c1 hg
 go_wp2_with fail
 refine (zdg _ [(1, exHead)] _ H2.out.2.2 (by decide)).mono ?_
 rintro e w4 ⟨rfl, hb4⟩
 rw [zse]
 have s4 := H2.out.1.run hb4
 have H4 := hid (And.intro s4 (H2.out.2.1.trans (hb4.mono H2.out.2.1.size)))
 obtain ⟨y1, y2, y3, y4, y5, y6⟩ := zaa s4
 clear s4 hb4
 go_wp2
 have hF := RowAt.nine (v0 := .string ⟨#[]⟩) (v1 := .slice none 0 0) (v2 := .slice none 0 0) (v3 := .slice none 0 0) (v4 := .slice none 0 0) (v5 := .slice none 0 0) (v6 := .slice none 0 0) (v7 := .slice none 0 0) (v8 := .slice none 0 0) H4.out.1
 obtain ⟨Wz, hWz⟩ : ∃ W, (((((((((w4.setCell ⟨w.heap.size, 0, none⟩ (.string ⟨#[]⟩)).setCell ⟨w.heap.size, 1, none⟩ (.slice none 0 0)).setCell ⟨w.heap.size, 2, none⟩ (.slice none 0 0)).setCell ⟨w.heap.size, 3, none⟩ (.slice none 0 0)).setCell ⟨w.heap.size, 4, none⟩ (.slice none 0 0)).setCell ⟨w.heap.size, 5, none⟩ (.slice none 0 0)).setCell ⟨w.heap.size, 6, none⟩ (.slice none 0 0)).setCell ⟨w.heap.size, 7, none⟩ (.slice none 0 0)).setCell ⟨w.heap.size, 8, none⟩ (.slice none 0 0)) = W := ⟨_, rfl⟩
 have hB : Below w.heap.size w Wz := by rw [← hWz]; exact zaw H4.out.2 ze8 (Nat.le_refl _)
 rw [hWz] at hF ⊢
 have f0 := zak hF 0
 have f1 := zak hF 1
 have f2 := zak hF 2
 have f3 := zak hF 3
 have f4 := zak hF 4
 have f5 := zak hF 5
 have f6 := zak hF 6
 have f7 := zak hF 7
 have f8 := zak hF 8
 simp only [List.getElem?_toArray] at f0 f1 f2 f3 f4 f5 f6 f7 f8
 refine bodyPost_ret (v := .tuple #[.agg #[.string ⟨#[]⟩, .slice none 0 0, .slice none 0 0, .slice none 0 0, .slice none 0 0, .slice none 0 0, .slice none 0 0, .slice none 0 0, .slice none 0 0], .int .i64 7, .int .i64 20]) ?_ rfl ⟨rfl, hB⟩
 simp [results, Tryz.results24, go_sem, f0, f1, f2, f3, f4, f5, f6, f7, f8]
theorem Tryz.info_entry : (Tryz.prog.info? 77).map (fun i => (i.zero, i.size, i.bytes)) = some (some (.agg #[.int .i64 0, .string ⟨#[]⟩]), 2, 24) := by kernel_rfl
theorem zks (B q K : Nat) (x : Value) (kd : UInt8) (out : List UInt8) (es : List Ent) (v : Value) (w : World) (hq : RowAt w q 34 #[v]) (hown : w.ownsRow B 77 2 v es.length (genL entA es)) (hB : B ≤ w.heap.size) (hBq : B ≤ q) (hl : es.length ≤ 1000000)
  (h0 : out ≠ []) (he : ∀ args W, (callFunc K args).run Tryz.prog W = .ok (.enter K args) W)
  (F : ∀ (b : Nat) (W : World), Wtr w.heap.size b [] W → Below w.heap.size w W → Calls Tryz.prog K #[.pointer (some ⟨b, 0, none⟩), x] W fun e w' => e = .returned (.tuple #[]) ∧ Wtr w.heap.size b out w' ∧ KeptW w.heap.size b W w') :
  Calls Tryz.prog 83 #[.int .i64 (kd.toNat : Int), .func (.func K) #[] #[x], .pointer (some ⟨q, 0, none⟩)] w fun e w' => e = .returned (.tuple #[]) ∧ (∃ g cap, RowAt w' q 34 #[.slice (some ⟨g, 0, none⟩) (es ++ [(kd, str out)]).length cap] ∧ w'.ownsRow B 77 2 (.slice (some ⟨g, 0, none⟩) (es ++ [(kd, str out)]).length cap) (es ++ [(kd, str out)]).length (genL entA (es ++ [(kd, str out)]))) ∧ Below B w w' := by
 obtain ⟨i0, hi, hz0, hz1, hz2⟩ := info_parts Tryz.info_entry
 have D := hid (zfo K x out w.drew h0 he (fun b W hW hb => F b W hW ⟨hb.os, hb.tape, hb.output, hb.size, hb.block⟩))
 obtain ⟨x1, x2, x3, x4, x5, x6⟩ := zaa hq
 have x0 := x1 0
 simp at x0
 obtain ⟨ad, cp, rfl, -⟩ := zc9 hown
 have HH := hid (And.intro hq hown)
 have HB := hid (And.intro hB hBq)
 have hl3 : (es.length : Int) ≤ 1000000 := by omega
 have e1 : (es ++ [(kd, str out)]).length = es.length + 1 := by simp
 have e2 : genL entA (es ++ [(kd, str out)]) = genL entA es ++ [.int .i64 (kd.toNat : Int), .string (str out)] := by rw [zdf]; rfl
 have HE := hid (And.intro e1 e2)
 have ho := ze9 (kd, str out)
 simp only [entA] at ho
 generalize (es ++ [(kd, str out)]) = es' at HE ⊢
 generalize str out = so at D HE ho ⊢
 generalize (kd.toNat : Int) = kk at HE ho ⊢
 clear F hq hown x1 e1 e2 h0 he
 go_enter Tryz.func83, Tryz.ntmps83
 go_wp2
 go_region_law (first
  | (go_simp; go_at_call 69; refine D.out.mono ?_; rintro e w4 ⟨rfl, hb4⟩; have r4 := RowAt.run (RowAt.drew HH.out.1) hb4; have own4 := zcw (World.ownsRow.drew HH.out.2) hb4; have hs4 := hb4.size; have x04 := zak r4 0; simp at x04; obtain ⟨g1, g2, g3, g4, g5, g6⟩ := zaa r4; clear g1; have R4 := hid (And.intro r4 (And.intro own4 ((Below.drew (Below.refl B w)).trans (hb4.mono HB.out.1)))); clear hb4)
  | (refine step_append_lies _ (by rfl) _ _ _ (by rfl) B 77 i0 _ 2 24 Tryz.underlying34 hi hz0 hz1 hz2 rfl (by decide) (.slice ad es.length cp) es.length _ (by rfl) (own4.alloc _) ⟨w4.heap.size, 0, none⟩ 1 1 [.int .i64 kk, .string so] (by rfl) (by rfl) (World.news_of_block (cs := #[.int .i64 kk, .string so]) (t := 77) (fr := (0, 0)) (heap_alloc_new _ _)) ho (by decide) (by unfold maxLen; omega) (by omega) (by simp; omega) (w4.heap.size + 1) (by simp) ?_; intro gg cp2 w8 hown8 hgrow hat hlt8; have hr8 := zdc (own4.alloc _) (RowAt.alloc r4 _) (by decide) hgrow; have k0 := zak hr8 0; simp at k0; obtain ⟨k1, k2, k3, k4, k5, k6⟩ := zaa hr8; clear k1; have R8 := hid (And.intro hr8 (And.intro (zb9 (Below.alloc R4.out.2.2 (by omega) _) (own4.alloc _) (Nat.le_refl _) hgrow (by simp; omega)) hown8)); clear hgrow hat hown8 hr8))
 all_goals
  go_wp2
  (first | go_end0 | refine bodyPost_ret (results_none rfl _ _ _) rfl ?_)
  rw [HE.out.1, HE.out.2]
  refine ⟨rfl, ⟨gg, cp2, RowAt.set R8.out.1 rfl, ?_⟩, Below.setCell R8.out.2.1 (by show B ≤ q; omega) _⟩
  exact zlc R8.out.2.2 R8.out.1 (by decide) (zav (za5 q w8) 0 _)
theorem zk4 (B b q : Nat) (t : ByteArray) (v1 v2 v3 v4 v5 v6 v7 v8 : Value) (w : World) (h : Wtr B b [] w) (hq : RowAt w q 31 #[.string t, v1, v2, v3, v4, v5, v6, v7, v8]) (ht : t.size ≤ 1000000000) (hB : B ≤ w.heap.size) :
  Calls Tryz.prog 84 #[.pointer (some ⟨b, 0, none⟩), .pointer (some ⟨q, 0, none⟩)] w fun e w' => e = .returned (.tuple #[]) ∧ Wtr B b (intB 3 ++ textB t) w' ∧ KeptW B b w w' := by
 have hl3 : (intB 3).length ≤ 10 := za3 (by decide) (by decide)
 have hlt : (textB t).length ≤ 10 + t.size := by
  unfold textB
  split
  · simp
  have := za3 (n := t.size) (by omega) (by omega)
  simp only [List.length_append]
  have e : t.data.toList.length = t.size := by simp
  omega
 have C1 := hid (za9 B b [] 3 w h (by decide) (by simp; omega) hB)
 have C2 := hid (fun (W : World) (hW : Wtr B b ([] ++ intB 3) W) (hBW : B ≤ W.heap.size) => zce B b ([] ++ intB 3) t W hW (by omega) (by simp; omega) hBW)
 have HQ := hid (And.intro hq (h.far hq (by decide)))
 clear hlt hl3 hq h
 go_enter Tryz.func84, Tryz.ntmps84
 go_wp2_with fail
 refine C1.out.mono ?_
 rintro e w1 ⟨rfl, hw1, hk1⟩
 have hq1 := hk1.row HQ.out.1 HQ.out.2 (by decide)
 obtain ⟨x1, x2, x3, x4, x5, x6⟩ := zaa hq1
 have HH := hid (And.intro hw1 hk1)
 clear hw1 hq1
 go_wp2_with fail
 refine (C2.out w1 HH.out.1 (Nat.le_trans hB HH.out.2.1.size)).mono ?_
 rintro e w2 ⟨rfl, hw2, hk2⟩
 go_wp2
 (first | go_end0 | refine bodyPost_ret (results_none rfl _ _ _) rfl ?_)
 exact ⟨rfl, by simpa using hw2, HH.out.2.trans hk2⟩
theorem zk7 (B b q : Nat) (n : Int) (w : World) (h : Wtr B b [] w) (hq : RowAt w q 3 #[.int .i64 n]) (hn : -9223372036854775808 ≤ n ∧ n ≤ 9223372036854775807) (hB : B ≤ w.heap.size) :
  Calls Tryz.prog 105 #[.pointer (some ⟨b, 0, none⟩), .pointer (some ⟨q, 0, none⟩)] w fun e w' => e = .returned (.tuple #[]) ∧ Wtr B b (intB n) w' ∧ KeptW B b w w' := by
 have hl3 : (intB n).length ≤ 10 := za3 hn.1 hn.2
 have C1 := hid (za9 B b [] n w h hn (by simp; omega) hB)
 obtain ⟨x1, x2, x3, x4, x5, x6⟩ := zaa hq
 have HQ := hid (And.intro h hq)
 clear hq h
 go_enter Tryz.func105, Tryz.ntmps105
 go_wp2_with fail
 refine C1.out.mono ?_
 rintro e w1 ⟨rfl, hw1, hk1⟩
 go_wp2
 (first | go_end0 | refine bodyPost_ret (results_none rfl _ _ _) rfl ?_)
 exact ⟨rfl, by simpa using hw1, hk1⟩
theorem zkk : ∀ args W, (callFunc 84 args).run Tryz.prog W = .ok (.enter 84 args) W := enters_of Tryz.func84 (by kernel_rfl) rfl
theorem zh2 : ∀ args W, (callFunc 105 args).run Tryz.prog W = .ok (.enter 105 args) W := enters_of Tryz.func105 (by kernel_rfl) rfl
theorem ztj (w : World) :
  Calls Tryz.prog 44 #[.agg #[.string ⟨#[]⟩, .slice none 0 0, .slice none 0 0, .slice none 0 0, .slice none 0 0, .slice none 0 0, .slice none 0 0, .slice none 0 0, .slice none 0 0]] w fun e w' => ∃ g cap, e = .returned (.slice (some ⟨g, 0, none⟩) 2 cap) ∧ ListAt 2 entA w' (.slice (some ⟨g, 0, none⟩) 2 cap) [(1, exHead), (11, exEnd)] ∧ Below w.heap.size w w' := by
 have hmf : ∀ (fn : Fn) (first cap : Array Value) (w : World), (Instr.makeFunc fn first cap).run Tryz.prog w = .ok (.func fn first cap) w := fun _ _ _ _ => rfl
 obtain ⟨W0, hW0⟩ : ∃ W, (w.alloc (.cells #[.string ⟨#[]⟩, .slice none 0 0, .slice none 0 0, .slice none 0 0, .slice none 0 0, .slice none 0 0, .slice none 0 0, .slice none 0 0, .slice none 0 0] 31)).alloc (.cells #[.slice none 0 0] 34) = W := ⟨_, rfl⟩
 have s0 : RowAt W0 w.heap.size 31 #[.string ⟨#[]⟩, .slice none 0 0, .slice none 0 0, .slice none 0 0, .slice none 0 0, .slice none 0 0, .slice none 0 0, .slice none 0 0, .slice none 0 0] := by rw [← hW0]; exact RowAt.alloc (RowAt.new _ _ _) _
 have q0 : RowAt W0 (w.heap.size + 1) 34 #[.slice none 0 0] := by
  rw [← hW0]
  have h9 := RowAt.new (w.alloc (.cells #[.string ⟨#[]⟩, .slice none 0 0, .slice none 0 0, .slice none 0 0, .slice none 0 0, .slice none 0 0, .slice none 0 0, .slice none 0 0, .slice none 0 0] 31)) 34 #[.slice none 0 0]
  rw [show (w.alloc (.cells #[.string ⟨#[]⟩, .slice none 0 0, .slice none 0 0, .slice none 0 0, .slice none 0 0, .slice none 0 0, .slice none 0 0, .slice none 0 0, .slice none 0 0] 31)).heap.size = w.heap.size + 1 from by simp] at h9
  exact h9
 have hz0 : W0.heap.size = w.heap.size + 2 := by rw [← hW0]; simp
 have b0 : Below w.heap.size w W0 := by rw [← hW0]; exact bel
 have C1 := hid (fun (W : World) (hW : W0 = W) => by subst hW; exact zks (w.heap.size + 1) (w.heap.size + 1) 84 (.pointer (some ⟨w.heap.size, 0, none⟩)) 1 (intB 3 ++ textB ⟨#[]⟩) [] (.slice none 0 0) W0 q0 (World.ownsRow_nil _ _ _ _) (by omega) (by omega) (by simp) (by rw [zk0]; simp) zkk (fun b W hW hb => zk4 W0.heap.size b w.heap.size ⟨#[]⟩ _ _ _ _ _ _ _ _ W hW (s0.run hb) (by decide) hb.size))
 have H0 := hid (And.intro s0 (And.intro b0 hz0))
 clear s0 q0 b0 hz0
 go_enter Tryz.func44, Tryz.ntmps44
 go_wp2_with fail
 refine (C1.out _ rfl).mono ?_
 rintro e w1 ⟨rfl, ⟨g, cap, hq1, hown1⟩, hb1⟩
 have hs1 := hb1.size
 have s1 : RowAt w1 w.heap.size 31 #[.string ⟨#[]⟩, .slice none 0 0, .slice none 0 0, .slice none 0 0, .slice none 0 0, .slice none 0 0, .slice none 0 0, .slice none 0 0, .slice none 0 0] := H0.out.1.below hb1 (by omega)
 have hz1 := H0.out.2.2
 have b1 : Below w.heap.size w w1 := H0.out.2.1.trans (hb1.mono (by omega))
 rw [zk0] at hown1 hq1
 simp only [List.nil_append, List.length_cons, List.length_nil] at hown1 hq1
 have q1 : RowAt (w1.alloc (.cells #[.int .i64 1] 3)) (w.heap.size + 1) 34 #[.slice (some ⟨g, 0, none⟩) 1 cap] := hq1.alloc _
 have C2 := hid (zks (w.heap.size + 1) (w.heap.size + 1) 105 (.pointer (some ⟨w1.heap.size, 0, none⟩)) 11 (intB 1) [(1, exHead)] (.slice (some ⟨g, 0, none⟩) 1 cap) (w1.alloc (.cells #[.int .i64 1] 3)) q1 (World.ownsRow.alloc hown1 _) (by simp; omega) (by omega) (by simp) (by rw [zh7]; simp) zh2 (fun b W hW hb => zk7 _ b w1.heap.size 1 W hW ((RowAt.new w1 _ _).run hb) (by decide) hb.size))
 obtain ⟨x1, x2, x3, x4, x5, x6⟩ := zaa s1
 obtain ⟨y1, y2, y3, y4, y5, y6⟩ := zaa hq1
 have H1 := hid (And.intro b1 (And.intro hs1 hz1))
 clear hown1 hq1 q1 b1 hb1 hs1 hz1 s1
 go_wp2
 go_loopw [31] (fun i wr => i = .int .i64 0 ∧ w1 = wr) (fun _ _ => 0)
 case atStart => exact ⟨rfl, rfl⟩
 case round =>
  obtain ⟨rfl, rfl⟩ := hrel
  go_wp2
  go_loopw [42] (fun i wr => i = .int .i64 0 ∧ w1 = wr) (fun _ _ => 0)
  case atStart => exact ⟨rfl, rfl⟩
  case round =>
   obtain ⟨rfl, rfl⟩ := hrel
   go_wp2
   go_loopw [53] (fun i wr => i = .int .i64 0 ∧ w1 = wr) (fun _ _ => 0)
   case atStart => exact ⟨rfl, rfl⟩
   case round =>
    obtain ⟨rfl, rfl⟩ := hrel
    go_wp2
    go_loopw [64] (fun i wr => i = .int .i64 0 ∧ w1 = wr) (fun _ _ => 0)
    case atStart => exact ⟨rfl, rfl⟩
    case round =>
     obtain ⟨rfl, rfl⟩ := hrel
     go_wp2
     go_loopw [75] (fun i wr => i = .int .i64 0 ∧ w1 = wr) (fun _ _ => 0)
     case atStart => exact ⟨rfl, rfl⟩
     case round =>
      obtain ⟨rfl, rfl⟩ := hrel
      go_wp2
      go_loopw [86] (fun i wr => i = .int .i64 0 ∧ w1 = wr) (fun _ _ => 0)
      case atStart => exact ⟨rfl, rfl⟩
      case round =>
       obtain ⟨rfl, rfl⟩ := hrel
       go_wp2
       go_loopw [108] (fun i wr => i = .int .i64 0 ∧ w1 = wr) (fun _ _ => 0)
       case atStart => exact ⟨rfl, rfl⟩
       case round =>
        obtain ⟨rfl, rfl⟩ := hrel
        go_wp2
        go_loopw [119] (fun i wr => i = .int .i64 0 ∧ w1 = wr) (fun _ _ => 0)
        case atStart => exact ⟨rfl, rfl⟩
        case round =>
         obtain ⟨rfl, rfl⟩ := hrel
         go_wp2_with fail
         refine C2.out.mono ?_
         rintro e w2 ⟨rfl, ⟨g2, cap2, hq2, hown2⟩, hb2⟩
         obtain ⟨z1, z2, z3, z4, z5, z6⟩ := zaa hq2
         have hL := zft (S := 2) (f := entA) (l := [(1, exHead), (11, exEnd)]) (by decide) zgz (by have h9 := hown2; rw [zh7] at h9; exact h9) (by decide)
         go_wp2
         go_ret
         exact ⟨g2, cap2, rfl, hL, H1.out.1.trans ((Below.alloc (Below.refl _ _) (by have := H1.out.2; omega) _).trans (hb2.mono (by omega)))⟩
theorem zth (B q K k T : Nat) (cs : Array Value) (x : Value) (kd : UInt8) (out : List UInt8) (es : List Ent) (v : Value) (w : World) (hq : RowAt w q 34 #[v]) (hown : w.ownsRow B 77 2 v es.length (genL entA es)) (hB : B ≤ w.heap.size) (hBq : B ≤ q) (hl : es.length ≤ 1000000)
  (hk : RowAt w k T cs) (hkq : ¬ k = q) (hT : 77 ≠ T)
  (h0 : out ≠ []) (he : ∀ args W, (callFunc K args).run Tryz.prog W = .ok (.enter K args) W)
  (F : ∀ (b : Nat) (W : World), Wtr w.heap.size b [] W → Below w.heap.size w W → Calls Tryz.prog K #[.pointer (some ⟨b, 0, none⟩), x] W fun e w' => e = .returned (.tuple #[]) ∧ Wtr w.heap.size b out w' ∧ KeptW w.heap.size b W w') :
  Calls Tryz.prog 83 #[.int .i64 (kd.toNat : Int), .func (.func K) #[] #[x], .pointer (some ⟨q, 0, none⟩)] w fun e w' => e = .returned (.tuple #[]) ∧ (∃ g cap, RowAt w' q 34 #[.slice (some ⟨g, 0, none⟩) (es ++ [(kd, str out)]).length cap] ∧ w'.ownsRow B 77 2 (.slice (some ⟨g, 0, none⟩) (es ++ [(kd, str out)]).length cap) (es ++ [(kd, str out)]).length (genL entA (es ++ [(kd, str out)]))) ∧ RowAt w' k T cs ∧ Below B w w' := by
 obtain ⟨i0, hi, hz0, hz1, hz2⟩ := info_parts Tryz.info_entry
 have D := hid (zfo K x out w.drew h0 he (fun b W hW hb => F b W hW ⟨hb.os, hb.tape, hb.output, hb.size, hb.block⟩))
 obtain ⟨x1, x2, x3, x4, x5, x6⟩ := zaa hq
 have x0 := x1 0
 simp at x0
 obtain ⟨ad, cp, rfl, -⟩ := zc9 hown
 have HH := hid (And.intro hq hown)
 have HK := hid (And.intro hk (And.intro hkq hT))
 have HB := hid (And.intro hB hBq)
 have hl3 : (es.length : Int) ≤ 1000000 := by omega
 have e1 : (es ++ [(kd, str out)]).length = es.length + 1 := by simp
 have e2 : genL entA (es ++ [(kd, str out)]) = genL entA es ++ [.int .i64 (kd.toNat : Int), .string (str out)] := by rw [zdf]; rfl
 have HE := hid (And.intro e1 e2)
 have ho := ze9 (kd, str out)
 simp only [entA] at ho
 generalize (es ++ [(kd, str out)]) = es' at HE ⊢
 generalize str out = so at D HE ho ⊢
 generalize (kd.toNat : Int) = kk at HE ho ⊢
 clear F hq hown x1 e1 e2 h0 he hk hkq hT
 go_enter Tryz.func83, Tryz.ntmps83
 go_wp2
 go_region_law (first
  | (go_simp; go_at_call 69; refine D.out.mono ?_; rintro e w4 ⟨rfl, hb4⟩; have r4 := RowAt.run (RowAt.drew HH.out.1) hb4; have k4 := RowAt.run (RowAt.drew HK.out.1) hb4; have own4 := zcw (World.ownsRow.drew HH.out.2) hb4; have hs4 := hb4.size; have x04 := zak r4 0; simp at x04; obtain ⟨g1, g2, g3, g4, g5, g6⟩ := zaa r4; clear g1; have R4 := hid (And.intro r4 (And.intro own4 (And.intro ((Below.drew (Below.refl B w)).trans (hb4.mono HB.out.1)) k4))); clear hb4 k4)
  | (refine step_append_lies _ (by rfl) _ _ _ (by rfl) B 77 i0 _ 2 24 Tryz.underlying34 hi hz0 hz1 hz2 rfl (by decide) (.slice ad es.length cp) es.length _ (by rfl) (own4.alloc _) ⟨w4.heap.size, 0, none⟩ 1 1 [.int .i64 kk, .string so] (by rfl) (by rfl) (World.news_of_block (cs := #[.int .i64 kk, .string so]) (t := 77) (fr := (0, 0)) (heap_alloc_new _ _)) ho (by decide) (by unfold maxLen; omega) (by omega) (by simp; omega) (w4.heap.size + 1) (by simp) ?_; intro gg cp2 w8 hown8 hgrow hat hlt8; have hr8 := zdc (own4.alloc _) (RowAt.alloc r4 _) (by decide) hgrow; have hk8 := zdc (own4.alloc _) (RowAt.alloc R4.out.2.2.2 _) HK.out.2.2 hgrow; have k0 := zak hr8 0; simp at k0; obtain ⟨k1, k2, k3, k4, k5, k6⟩ := zaa hr8; clear k1; have R8 := hid (And.intro hr8 (And.intro (zb9 (Below.alloc R4.out.2.2.1 (by omega) _) (own4.alloc _) (Nat.le_refl _) hgrow (by simp; omega)) (And.intro hown8 hk8))); clear hgrow hat hown8 hr8 hk8))
 all_goals
  go_wp2
  (first | go_end0 | refine bodyPost_ret (results_none rfl _ _ _) rfl ?_)
  rw [HE.out.1, HE.out.2]
  refine ⟨rfl, ⟨gg, cp2, RowAt.set R8.out.1 rfl, ?_⟩, RowAt.far R8.out.2.2.2 HK.out.2.1, Below.setCell R8.out.2.1 (by show B ≤ q; omega) _⟩
  exact zlc R8.out.2.2.1 R8.out.1 (by decide) (zav (za5 q w8) 0 _)
def PSt (w : World) (cells : Array Value) (es : List Ent) (W : World) : Prop :=
 (∃ v, RowAt W (w.heap.size + 1) 34 #[v] ∧ W.ownsRow (w.heap.size + 1) 77 2 v es.length (genL entA es)) ∧ RowAt W w.heap.size 31 cells ∧ Below w.heap.size w W
theorem PSt.size {w W : World} {cells : Array Value} {es : List Ent} (h : PSt w cells es W) : w.heap.size + 1 < W.heap.size := by
 obtain ⟨⟨v, h1, _⟩, _⟩ := h
 exact lt_of_block h1
theorem PSt.alloc {w W : World} {cells : Array Value} {es : List Ent} (h : PSt w cells es W) (o : Obj) : PSt w cells es (W.alloc o) := by
 obtain ⟨⟨v, h1, h2⟩, h3, h4⟩ := h
 exact ⟨⟨v, h1.alloc o, h2.alloc o⟩, h3.alloc o, h4.alloc h4.size o⟩
def Writes (K : Nat) (x : Value) (out : List UInt8) (W : World) : Prop :=
 out ≠ [] ∧ (∀ args W, (callFunc K args).run Tryz.prog W = .ok (.enter K args) W) ∧
 ∀ (b : Nat) (V : World), Wtr W.heap.size b [] V → Below W.heap.size W V → Calls Tryz.prog K #[.pointer (some ⟨b, 0, none⟩), x] V fun e w' => e = .returned (.tuple #[]) ∧ Wtr W.heap.size b out w' ∧ KeptW W.heap.size b V w'
theorem zgl (w : World) (cells : Array Value) (es : List Ent) (K k T : Nat) (cs : Array Value) (x : Value) (kd : UInt8) (out : List UInt8) (W : World) (h : PSt w cells es W) (hl : es.length ≤ 1000000) (hk : RowAt W k T cs) (hkq : ¬ k = w.heap.size + 1) (hT : 77 ≠ T) (hw : Writes K x out W) :
  Calls Tryz.prog 83 #[.int .i64 (kd.toNat : Int), .func (.func K) #[] #[x], .pointer (some ⟨w.heap.size + 1, 0, none⟩)] W fun e w' => e = .returned (.tuple #[]) ∧ PSt w cells (es ++ [ent kd out]) w' ∧ RowAt w' k T cs := by
 have hsz := h.size
 obtain ⟨⟨v, h1, h2⟩, h3, h4⟩ := h
 refine (zth (w.heap.size + 1) (w.heap.size + 1) K k T cs x kd out es v W h1 h2 (by omega) (Nat.le_refl _) hl hk hkq hT hw.1 hw.2.1 hw.2.2).mono ?_
 rintro e w' ⟨rfl, ⟨g, cap, h5, h6⟩, h7, h8⟩
 exact ⟨rfl, ⟨⟨_, h5, h6⟩, h3.below h8 (by omega), h4.trans (h8.mono (by omega))⟩, h7⟩
theorem zbd (w : World) (cells : Array Value) (es : List Ent) (K : Nat) (x : Value) (kd : UInt8) (out : List UInt8) (W : World) (h : PSt w cells es W) (hl : es.length ≤ 1000000) (hw : Writes K x out W) :
  Calls Tryz.prog 83 #[.int .i64 (kd.toNat : Int), .func (.func K) #[] #[x], .pointer (some ⟨w.heap.size + 1, 0, none⟩)] W fun e w' => e = .returned (.tuple #[]) ∧ PSt w cells (es ++ [ent kd out]) w' := by
 refine (zgl w cells es K w.heap.size 31 cells x kd out W h hl h.2.1 (by omega) (by decide) hw).mono ?_
 rintro e w' ⟨rfl, h1, _⟩
 exact ⟨rfl, h1⟩
theorem zb1 (n : Int) : 0 < (intB n).length := zd3 _
theorem zby {l : List UInt8} (h : 0 < l.length) : l ≠ [] := by rintro rfl; simp at h
theorem zvd (c : List Pt) : ptsB c ≠ [] := zby (by have := zb1 c.length; unfold ptsB; rw [List.length_append]; omega)
theorem zw0 (d : ProfD) : profB d ≠ [] := zby (by have := zb1 d.feats.length; unfold profB; simp only [List.length_append]; omega)
theorem zuv (d : FixD) : fixB d ≠ [] := zby (by have := zb1 d.ch; unfold fixB; simp only [List.length_append, zcl]; omega)
theorem zu7 (d : GrpD) : grpB d ≠ [] := zby (by have := zb1 d.num; unfold grpB; simp only [List.length_append]; omega)
theorem zpm (d : PalD) : palB d ≠ [] := zby (by have := zb1 d.num; unfold palB; simp only [List.length_append]; omega)
theorem ztt (d : LstD) : lstB d ≠ [] := zby (by have := zb1 d.num; unfold lstB; simp only [List.length_append, zcl]; omega)
theorem zrq (d : SubD) : subB d ≠ [] := zby (by have := zb1 d.num; unfold subB; simp only [List.length_append, zcl]; omega)
theorem zmk (d : EffD) : effB d ≠ [] := zby (by have := zb1 d.num; unfold effB; simp only [List.length_append, zcl]; omega)
theorem zo5 (c : List Pt) (v : Value) (w W0 : World) (h0 : Below w.heap.size w W0) (hv : ListAt 2 ptA w v c) (hi : ∀ p ∈ c, Ints64 [p.1, p.2]) (hl : c.length ≤ 16) : Writes 87 (.pointer (some ⟨W0.heap.size, 0, none⟩)) (ptsB c) (W0.alloc (.cells #[v] 144)) := by
 refine ⟨zvd c, zou, fun b V hV hb => ?_⟩
 have hB0 : w.heap.size ≤ (W0.alloc (.cells #[v] 144)).heap.size := by have := h0.size; simp; omega
 have hbv : Below w.heap.size w V := (h0.alloc h0.size _).trans (hb.mono hB0)
 have hq : RowAt V W0.heap.size 144 #[v] := (RowAt.new W0 _ _).run hb
 exact zf3 _ b [] _ v c w V hV hbv hB0 hv hi hq (by have := zc3 hi hl; simp; omega) hb.size
theorem zr2 (d : ProfD) (v : Value) (w W0 : World) (h0 : Below w.heap.size w W0) (hv : RL 10 featA RFeat w v d.feats) (hd : Prof64 d) (hl : (profB d).length ≤ 65535) : Writes 89 (.pointer (some ⟨W0.heap.size, 0, none⟩)) (profB d) (W0.alloc (.cells (profA (d, v)) 89)) := by
 refine ⟨zw0 d, zp3, fun b V hV hb => ?_⟩
 have hB0 : w.heap.size ≤ (W0.alloc (.cells (profA (d, v)) 89)).heap.size := by have := h0.size; simp; omega
 have hbv : Below w.heap.size w V := (h0.alloc h0.size _).trans (hb.mono hB0)
 have hq : RowAt V W0.heap.size 89 (profA (d, v)) := (RowAt.new W0 _ _).run hb
 exact zym _ b [] _ d v w V hV hbv hB0 hv hd hq (by simp; omega) hb.size
theorem zsx (d : FixD) (w W0 : World) (h0 : Below w.heap.size w W0) (hd : Fix64 d) (hl : (fixB d).length ≤ 65535) : Writes 91 (.pointer (some ⟨W0.heap.size, 0, none⟩)) (fixB d) (W0.alloc (.cells (fixA d) 173)) := by
 refine ⟨zuv d, znf, fun b V hV hb => ?_⟩
 have hB0 : w.heap.size ≤ (W0.alloc (.cells (fixA d) 173)).heap.size := by have := h0.size; simp; omega
 have hbv : Below w.heap.size w V := (h0.alloc h0.size _).trans (hb.mono hB0)
 have hq : RowAt V W0.heap.size 173 (fixA d) := (RowAt.new W0 _ _).run hb
 exact zcb _ b [] _ d V hV hd hq (by simp; omega) hb.size
theorem zxz (d : GrpD) (v : Value) (w W0 : World) (h0 : Below w.heap.size w W0) (hv : ListAt 1 intC w v d.chs) (hd : Ints64 [d.num]) (hg : Ints64 d.chs) (hl : (grpB d).length ≤ 65535) : Writes 93 (.pointer (some ⟨W0.heap.size, 0, none⟩)) (grpB d) (W0.alloc (.cells (grpA (d, v)) 147)) := by
 refine ⟨zu7 d, zn9, fun b V hV hb => ?_⟩
 have hB0 : w.heap.size ≤ (W0.alloc (.cells (grpA (d, v)) 147)).heap.size := by have := h0.size; simp; omega
 have hbv : Below w.heap.size w V := (h0.alloc h0.size _).trans (hb.mono hB0)
 have hq : RowAt V W0.heap.size 147 (grpA (d, v)) := (RowAt.new W0 _ _).run hb
 exact zp8 _ b [] _ d v w V hV hbv hB0 hv hd hg hq (by simp; omega) hb.size
theorem zwh (d : PalD) (v : Value) (w W0 : World) (h0 : Below w.heap.size w W0) (hv : ListAt 3 hueA w v d.hues) (hd : Ints64 [d.num]) (hg : ∀ h ∈ d.hues, Ints64 (hueI h)) (hl : (palB d).length ≤ 65535) : Writes 96 (.pointer (some ⟨W0.heap.size, 0, none⟩)) (palB d) (W0.alloc (.cells (palA (d, v)) 150)) := by
 refine ⟨zpm d, zm9, fun b V hV hb => ?_⟩
 have hB0 : w.heap.size ≤ (W0.alloc (.cells (palA (d, v)) 150)).heap.size := by have := h0.size; simp; omega
 have hbv : Below w.heap.size w V := (h0.alloc h0.size _).trans (hb.mono hB0)
 have hq : RowAt V W0.heap.size 150 (palA (d, v)) := (RowAt.new W0 _ _).run hb
 exact zp7 _ b [] _ d v w V hV hbv hB0 hv hd hg hq (by simp; omega) hb.size
theorem zqc (d : LstD) (v : Value) (w W0 : World) (h0 : Below w.heap.size w W0) (hd : Ints64 [d.num, d.pri]) : Writes 99 (.pointer (some ⟨W0.heap.size, 0, none⟩)) (lstB d) (W0.alloc (.cells (lstA (d, v)) 93)) := by
 refine ⟨ztt d, zwz, fun b V hV hb => ?_⟩
 have hB0 : w.heap.size ≤ (W0.alloc (.cells (lstA (d, v)) 93)).heap.size := by have := h0.size; simp; omega
 have hbv : Below w.heap.size w V := (h0.alloc h0.size _).trans (hb.mono hB0)
 have hq : RowAt V W0.heap.size 93 (lstA (d, v)) := (RowAt.new W0 _ _).run hb
 exact zql _ b [] _ d v V hV hd hq (by have := zi3 hd; simp; omega) hb.size
theorem zs0 (d : CueD) (v1 v2 : Value) (w W0 : World) (h0 : Below w.heap.size w W0) (hv : CueAt w v1 v2 d) (hd : Cue64 d) (hl : (cueB d).length ≤ 65535) : Writes 100 (.pointer (some ⟨W0.heap.size, 0, none⟩)) (cueB d) (W0.alloc (.cells (cueA d v1 v2) 64)) := by
 refine ⟨zix d, zrz, fun b V hV hb => ?_⟩
 have hB0 : w.heap.size ≤ (W0.alloc (.cells (cueA d v1 v2) 64)).heap.size := by have := h0.size; simp; omega
 have hbv : Below w.heap.size w V := (h0.alloc h0.size _).trans (hb.mono hB0)
 have hq : RowAt V W0.heap.size 64 (cueA d v1 v2) := (RowAt.new W0 _ _).run hb
 exact zrb _ b [] _ d v1 v2 w V hV hbv hB0 hv hd hq (by simp; omega) hb.size
theorem zne (d : SubD) (v : Value) (w W0 : World) (h0 : Below w.heap.size w W0) (hv : ListAt 3 gainA w v d.gains) (hd : Ints64 [d.num, d.pri]) (hg : ∀ g ∈ d.gains, Ints64 (gainI g)) (hl : (subB d).length ≤ 65535) : Writes 101 (.pointer (some ⟨W0.heap.size, 0, none⟩)) (subB d) (W0.alloc (.cells (subA (d, v)) 153)) := by
 refine ⟨zrq d, zs7, fun b V hV hb => ?_⟩
 have hB0 : w.heap.size ≤ (W0.alloc (.cells (subA (d, v)) 153)).heap.size := by have := h0.size; simp; omega
 have hbv : Below w.heap.size w V := (h0.alloc h0.size _).trans (hb.mono hB0)
 have hq : RowAt V W0.heap.size 153 (subA (d, v)) := (RowAt.new W0 _ _).run hb
 exact zov _ b [] _ d v w V hV hbv hB0 hv hd hg hq (by simp; omega) hb.size
theorem zxd (d : EffD) (v : Value) (w W0 : World) (h0 : Below w.heap.size w W0) (hv : ListAt 2 ptA w v d.wave) (hd : Ints64 [d.num, d.attr]) (hg : ∀ p ∈ d.wave, Ints64 [p.1, p.2]) (h3 : Ints64 [d.per, d.spr, d.size]) (hl : (effB d).length ≤ 65535) : Writes 103 (.pointer (some ⟨W0.heap.size, 0, none⟩)) (effB d) (W0.alloc (.cells (effA (d, v)) 183)) := by
 refine ⟨zmk d, ztq, fun b V hV hb => ?_⟩
 have hB0 : w.heap.size ≤ (W0.alloc (.cells (effA (d, v)) 183)).heap.size := by have := h0.size; simp; omega
 have hbv : Below w.heap.size w V := (h0.alloc h0.size _).trans (hb.mono hB0)
 have hq : RowAt V W0.heap.size 183 (effA (d, v)) := (RowAt.new W0 _ _).run hb
 exact zsv _ b [] _ d v w V hV hbv hB0 hv hd hg h3 hq (by simp; omega) hb.size
end Go.Proofs.YtjeigphhepngmaaGreatDoor
