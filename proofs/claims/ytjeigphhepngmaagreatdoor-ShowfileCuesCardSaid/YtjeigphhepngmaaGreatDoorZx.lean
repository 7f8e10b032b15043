/-
  Build of one header record.
  Build of one header record: torn.
  Load of a header alone: torn.
-/
import Derived.Test.YtjeigphhepngmaaGreatDoorZu
namespace Go.Proofs.YtjeigphhepngmaaGreatDoor
open Go.RowKit

theorem Tryz.zero_rd (w : World) : (zeroValue 104).run Tryz.prog w = .ok .nilFunc w := by kernel_rfl
/-- Looking up the header's reader. -/
theorem kinds_head (B b : Nat) (W : World) (h : W.heap[b]? = some (.map (kindsM B) 11)) : (Instr.lookup 102 (.map (some b)) (.int .i64 1) true).run Tryz.prog W = .ok (.tuple #[.func (.func 121) #[.pointer (some ⟨B, 0, none⟩)] #[], .bool true]) W :=
  run_lookup_ok 1 b (some (0, .func (.func 121) #[.pointer (some ⟨B, 0, none⟩)] #[])) .nilFunc (Tryz.zero_rd _) Tryz.underlying102 Tryz.underlying3 h rfl true

set_option maxHeartbeats 1000000 in
set_option maxRecDepth 100000 in
theorem build_old (g : Nat) (w : World) (hg : RowAt w g 77 #[.int .i64 1, .string exOld]) :
    Calls Tryz.prog 19 #[.slice (some ⟨g, 0, none⟩) 1 1] w fun e w' => e = .returned (.tuple #[.agg #[.string ⟨#[]⟩, .slice none 0 0, .slice none 0 0, .slice none 0 0, .slice none 0 0, .slice none 0 0, .slice none 0 0, .slice none 0 0, .slice none 0 0], .int .i64 0, .int .i64 18]) ∧ Below w.heap.size w w' := by
  have hmf : ∀ (fn : Fn) (first cap : Array Value) (w : World), (Instr.makeFunc fn first cap).run Tryz.prog w = .ok (.func fn first cap) w := fun _ _ _ _ => rfl
  have hst : ∀ (W : World) (a : Addr) (fn : Fn) (x y : Array Value), (store a (.func fn x y)).run Tryz.prog W = stored Tryz.prog W a (.func fn x y) .plain := fun W a fn x y => run_store Tryz.prog W a _ .plain rfl
  obtain ⟨W0, hW0⟩ : ∃ W, ((w.alloc (.cells #[.string ⟨#[]⟩, .slice none 0 0, .slice none 0 0, .slice none 0 0, .slice none 0 0, .slice none 0 0, .slice none 0 0, .slice none 0 0, .slice none 0 0] 31)).alloc (.cells #[.string ⟨#[]⟩, .slice none 0 0, .slice none 0 0, .slice none 0 0, .slice none 0 0, .slice none 0 0, .slice none 0 0, .slice none 0 0, .slice none 0 0, .int .i64 0] 101)) = W := ⟨_, rfl⟩
  have z0 : W0.heap.size = w.heap.size + 2 := by rw [← hW0]; simp
  have g0 : RowAt W0 g 77 #[.int .i64 1, .string exOld] := by rw [← hW0]; exact RowAt.alloc (RowAt.alloc hg _) _
  have s0 : RowAt W0 w.heap.size 31 #[.string ⟨#[]⟩, .slice none 0 0, .slice none 0 0, .slice none 0 0, .slice none 0 0, .slice none 0 0, .slice none 0 0, .slice none 0 0, .slice none 0 0] := by rw [← hW0]; exact RowAt.alloc (RowAt.new _ _ _) _
  have b0 : RowAt W0 (w.heap.size + 1) 101 #[.string ⟨#[]⟩, .slice none 0 0, .slice none 0 0, .slice none 0 0, .slice none 0 0, .slice none 0 0, .slice none 0 0, .slice none 0 0, .slice none 0 0, .int .i64 0] := by rw [← hW0]; exact RowAt.mk (by simp) rfl
  have B0 : Below w.heap.size w W0 := by rw [← hW0]; (repeat' (first | (with_reducible exact Below.refl _ _) | (with_reducible assumption) | (with_reducible refine below_run ?_ (by assumption)) | (with_reducible refine below_of_upd ?_ (by assumption) ?_) | (with_reducible refine below_drewN ?_ _) | (with_reducible refine Below.drew ?_) | (with_reducible refine below_seven ?_ ?_) | (with_reducible refine below_six ?_ ?_) | (with_reducible refine below_one ?_ ?_) | (with_reducible refine Below.alloc ?_ ?_ _) | (with_reducible refine below_after ?_ ?_ (by assumption)) | (show _ ≤ _; first | omega | (simp; done) | (simp; omega))))
  have C1 := Lib.hid (kinds_any (w.heap.size + 1) W0)
  obtain ⟨W1, hW1⟩ : ∃ W, W0.alloc (.map (kindsM (w.heap.size + 1)) 11) = W := ⟨_, rfl⟩
  have m1 : W1.heap[W0.heap.size]? = some (.map (kindsM (w.heap.size + 1)) 11) := by rw [← hW1]; exact heap_alloc_new _ _
  have k1 : Below W0.heap.size W0 W1 := by rw [← hW1]; (repeat' (first | (with_reducible exact Below.refl _ _) | (with_reducible assumption) | (with_reducible refine below_run ?_ (by assumption)) | (with_reducible refine below_of_upd ?_ (by assumption) ?_) | (with_reducible refine below_drewN ?_ _) | (with_reducible refine Below.drew ?_) | (with_reducible refine below_seven ?_ ?_) | (with_reducible refine below_six ?_ ?_) | (with_reducible refine below_one ?_ ?_) | (with_reducible refine Below.alloc ?_ ?_ _) | (with_reducible refine below_after ?_ ?_ (by assumption)) | (show _ ≤ _; first | omega | (simp; done) | (simp; omega))))
  have z1 : W1.heap.size = w.heap.size + 3 := by rw [← hW1]; simp [z0]
  rw [hW1] at C1
  have g1 := g0.run k1
  have s1 := s0.run k1
  have b1 := b0.run k1
  have B1 := B0.trans (k1.mono B0.size)
  have hl := fun (W : World) (hb : Below W1.heap.size W1 W) => kinds_head (w.heap.size + 1) W0.heap.size W ((hb.block _ (lt_of_block m1)).trans m1)
  have H1 := Lib.hid (And.intro g1 (And.intro s1 (And.intro b1 (And.intro B1 hl))))
  obtain ⟨x1, x2, x3, x4, x5, x6⟩ := row_facts g1
  have hl1 := hl (W1.alloc (.cells #[.int .i64 1, .string exOld] 77)) (by (repeat' (first | (with_reducible exact Below.refl _ _) | (with_reducible assumption) | (with_reducible refine below_run ?_ (by assumption)) | (with_reducible refine below_of_upd ?_ (by assumption) ?_) | (with_reducible refine below_drewN ?_ _) | (with_reducible refine Below.drew ?_) | (with_reducible refine below_seven ?_ ?_) | (with_reducible refine below_six ?_ ?_) | (with_reducible refine below_one ?_ ?_) | (with_reducible refine Below.alloc ?_ ?_ _) | (with_reducible refine below_after ?_ ?_ (by assumption)) | (show _ ≤ _; first | omega | (simp; done) | (simp; omega)))))
  have Z := Lib.hid (And.intro z0 z1)
  clear z0 z1
  have C2 := Lib.hid (fun W => follows_any 0 1 W)
  clear hW1 g0 s0 b0 B0 g1 s1 b1 B1 hl k1 m1 hg
  go_enter Tryz.func19, Tryz.ntmps19
  go_wp2_with fail
  clear hW0
  refine C1.out.mono ?_
  rintro e w1 ⟨rfl, rfl⟩
  go_wp2_with fail
  refine wp_loop_rounds 2 ?_
  rw [rounds_succ]
  go_wp2_with fail
  refine (C2.out _).mono ?_
  rintro e w2 ⟨rfl, rfl⟩
  have hf : folB 0 1 = true := rfl
  rw [hf]
  have b2 := H1.out.2.2.1
  obtain ⟨W3, hW3⟩ : ∃ W, ((w1.alloc (.cells #[.int .i64 1, .string exOld] 77)).alloc (.cells #[.func (.func 121) #[.pointer (some ⟨w.heap.size + 1, 0, none⟩)] #[]] 104)) = W := ⟨_, rfl⟩
  have e3 : RowAt W3 w1.heap.size 77 #[.int .i64 1, .string exOld] := by rw [← hW3]; exact RowAt.alloc (RowAt.new _ _ _) _
  have f3 : RowAt W3 (w1.heap.size + 1) 104 #[.func (.func 121) #[.pointer (some ⟨w.heap.size + 1, 0, none⟩)] #[]] := by rw [← hW3]; exact RowAt.mk (by simp) rfl
  have b3 := b2.run (show Below w1.heap.size w1 W3 from by rw [← hW3]; (repeat' (first | (with_reducible exact Below.refl _ _) | (with_reducible assumption) | (with_reducible refine below_run ?_ (by assumption)) | (with_reducible refine below_of_upd ?_ (by assumption) ?_) | (with_reducible refine below_drewN ?_ _) | (with_reducible refine Below.drew ?_) | (with_reducible refine below_seven ?_ ?_) | (with_reducible refine below_six ?_ ?_) | (with_reducible refine below_one ?_ ?_) | (with_reducible refine Below.alloc ?_ ?_ _) | (with_reducible refine below_after ?_ ?_ (by assumption)) | (show _ ≤ _; first | omega | (simp; done) | (simp; omega)))))
  have B3 := Lib.hid (show Below w1.heap.size w1 W3 from by rw [← hW3]; (repeat' (first | (with_reducible exact Below.refl _ _) | (with_reducible assumption) | (with_reducible refine below_run ?_ (by assumption)) | (with_reducible refine below_of_upd ?_ (by assumption) ?_) | (with_reducible refine below_drewN ?_ _) | (with_reducible refine Below.drew ?_) | (with_reducible refine below_seven ?_ ?_) | (with_reducible refine below_six ?_ ?_) | (with_reducible refine below_one ?_ ?_) | (with_reducible refine Below.alloc ?_ ?_ _) | (with_reducible refine below_after ?_ ?_ (by assumption)) | (show _ ≤ _; first | omega | (simp; done) | (simp; omega)))))
  obtain ⟨y1, y2, y3, y4, y5, y6⟩ := row_facts b3
  obtain ⟨k1, k2, k3, k4, k5, k6⟩ := row_facts e3
  rw [hW3]
  have HR := Lib.hid (And.intro e3 (And.intro f3 b3))
  clear hW3 b2 b3 f3 e3 x1 x2 x3 x4 x5 x6
  go_wp2_with fail
  have e4 := RowAt.far1 (i := 9) (u := .int .i64 0) HR.out.1 (show ¬ w1.heap.size = w.heap.size + 1 from by have := Z.out; omega)
  have f4 := RowAt.far1 (i := 9) (u := .int .i64 0) HR.out.2.1 (show ¬ w1.heap.size + 1 = w.heap.size + 1 from by have := Z.out; omega)
  have b4 : RowAt (W3.setCell ⟨w.heap.size + 1, 9, none⟩ (.int .i64 0)) (w.heap.size + 1) 101 #[.string ⟨#[]⟩, .slice none 0 0, .slice none 0 0, .slice none 0 0, .slice none 0 0, .slice none 0 0, .slice none 0 0, .slice none 0 0, .slice none 0 0, .int .i64 0] := RowAt.set HR.out.2.2 rfl
  have s4 := RowAt.far1 (i := 9) (u := .int .i64 0) (H1.out.2.1.run B3.out) (show ¬ w.heap.size = w.heap.size + 1 from by omega)
  have B4 : Below w.heap.size w (W3.setCell ⟨w.heap.size + 1, 9, none⟩ (.int .i64 0)) := below_one (H1.out.2.2.2.1.trans (B3.out.mono H1.out.2.2.2.1.size)) (by omega)
  have hz4 : (W3.setCell ⟨w.heap.size + 1, 9, none⟩ (.int .i64 0)).heap.size ≥ w.heap.size + 3 := by have := B3.out.size; have := Z.out; simp; omega
  clear hst k1 k2 k3 k4 k5 k6 y1 y2 y3 y4 y5 y6
  generalize W3.setCell ⟨w.heap.size + 1, 9, none⟩ (.int .i64 0) = W4 at e4 f4 b4 s4 B4 hz4 ⊢
  have n4 : RowAt (W4.alloc (.cells #[.int .i64 0] 35)) W4.heap.size 35 #[.int .i64 0] := RowAt.new _ _ _
  have C5 := build1_head w1.heap.size (w1.heap.size + 1) (w.heap.size + 1) 101 1 exOld #[.string ⟨#[]⟩, .slice none 0 0, .slice none 0 0, .slice none 0 0, .slice none 0 0, .slice none 0 0, .slice none 0 0, .slice none 0 0, .slice none 0 0, .int .i64 0] (W4.alloc (.cells #[.int .i64 0] 35)) (RowAt.alloc e4 _) (RowAt.alloc f4 _) (RowAt.alloc b4 _) (by simp) (by decide)
  rw [ex_old] at C5
  refine (try_badN 18 50 _ W4 (fun wx => Upd (w.heap.size + 1) W4 wx) build1_enters (C5.mono fun e w' h => ⟨h.1, RowAt.upd n4 h.2 (by omega), upd_trans (upd_alloc (upd_refl _ _) _) h.2⟩)).mono ?_
  rintro e w5 ⟨rfl, wx, hu5, hu6⟩
  have s5 := RowAt.upd (RowAt.upd s4 hu5 (by omega)) hu6 (by omega)
  have B5 : Below w.heap.size w w5 := below_of_upd (below_of_upd B4 hu5 (by omega)) hu6 (by omega)
  have H5 := Lib.hid (And.intro s5 B5)
  obtain ⟨y1, y2, y3, y4, y5, y6⟩ := row_facts s5
  clear hu5 hu6 s5 B5 s4 B4 b4 e4 f4 n4 C5
  go_wp2
  have hF := RowAt.nine (v0 := .string ⟨#[]⟩) (v1 := .slice none 0 0) (v2 := .slice none 0 0) (v3 := .slice none 0 0) (v4 := .slice none 0 0) (v5 := .slice none 0 0) (v6 := .slice none 0 0) (v7 := .slice none 0 0) (v8 := .slice none 0 0) H5.out.1
  obtain ⟨Wz, hWz⟩ : ∃ W, (((((((((w5.setCell ⟨w.heap.size, 0, none⟩ (.string ⟨#[]⟩)).setCell ⟨w.heap.size, 1, none⟩ (.slice none 0 0)).setCell ⟨w.heap.size, 2, none⟩ (.slice none 0 0)).setCell ⟨w.heap.size, 3, none⟩ (.slice none 0 0)).setCell ⟨w.heap.size, 4, none⟩ (.slice none 0 0)).setCell ⟨w.heap.size, 5, none⟩ (.slice none 0 0)).setCell ⟨w.heap.size, 6, none⟩ (.slice none 0 0)).setCell ⟨w.heap.size, 7, none⟩ (.slice none 0 0)).setCell ⟨w.heap.size, 8, none⟩ (.slice none 0 0)) = W := ⟨_, rfl⟩
  have hB : Below w.heap.size w Wz := by rw [← hWz]; exact below_of_upd H5.out.2 upd_set9 (Nat.le_refl _)
  rw [hWz] at hF ⊢
  have f0 := cell_h hF 0
  have f1 := cell_h hF 1
  have f2 := cell_h hF 2
  have f3 := cell_h hF 3
  have f4 := cell_h hF 4
  have f5 := cell_h hF 5
  have f6 := cell_h hF 6
  have f7 := cell_h hF 7
  have f8 := cell_h hF 8
  simp only [List.getElem?_toArray] at f0 f1 f2 f3 f4 f5 f6 f7 f8
  refine bodyPost_ret (v := .tuple #[.agg #[.string ⟨#[]⟩, .slice none 0 0, .slice none 0 0, .slice none 0 0, .slice none 0 0, .slice none 0 0, .slice none 0 0, .slice none 0 0, .slice none 0 0], .int .i64 0, .int .i64 18]) ?_ rfl ⟨rfl, hB⟩
  simp [results, Tryz.results19, go_sem, f0, f1, f2, f3, f4, f5, f6, f7, f8]

end Go.Proofs.YtjeigphhepngmaaGreatDoor

namespace Go.Proofs.YtjeigphhepngmaaGreatDoor
open Go.RowKit

set_option maxHeartbeats 1000000 in
set_option maxRecDepth 100000 in
theorem build_head (g cap : Nat) (w : World) (hg : g < w.heap.size) (hc0 : w.cell? ⟨g, 0, none⟩ = some (.int .i64 1)) (hc1 : w.cell? ⟨g, 1, none⟩ = some (.string exHead)) :
    Calls Tryz.prog 19 #[.slice (some ⟨g, 0, none⟩) 1 cap] w fun e w' => e = .returned (.tuple #[.agg #[.string ⟨#[]⟩, .slice none 0 0, .slice none 0 0, .slice none 0 0, .slice none 0 0, .slice none 0 0, .slice none 0 0, .slice none 0 0, .slice none 0 0], .int .i64 1, .int .i64 20]) ∧ Below w.heap.size w w' := by
  have hmf : ∀ (fn : Fn) (first cap : Array Value) (w : World), (Instr.makeFunc fn first cap).run Tryz.prog w = .ok (.func fn first cap) w := fun _ _ _ _ => rfl
  have hst : ∀ (W : World) (a : Addr) (fn : Fn) (x y : Array Value), (store a (.func fn x y)).run Tryz.prog W = stored Tryz.prog W a (.func fn x y) .plain := fun W a fn x y => run_store Tryz.prog W a _ .plain rfl
  obtain ⟨W0, hW0⟩ : ∃ W, ((w.alloc (.cells #[.string ⟨#[]⟩, .slice none 0 0, .slice none 0 0, .slice none 0 0, .slice none 0 0, .slice none 0 0, .slice none 0 0, .slice none 0 0, .slice none 0 0] 31)).alloc (.cells #[.string ⟨#[]⟩, .slice none 0 0, .slice none 0 0, .slice none 0 0, .slice none 0 0, .slice none 0 0, .slice none 0 0, .slice none 0 0, .slice none 0 0, .int .i64 0] 101)) = W := ⟨_, rfl⟩
  have z0 : W0.heap.size = w.heap.size + 2 := by rw [← hW0]; simp
  have s0 : RowAt W0 w.heap.size 31 #[.string ⟨#[]⟩, .slice none 0 0, .slice none 0 0, .slice none 0 0, .slice none 0 0, .slice none 0 0, .slice none 0 0, .slice none 0 0, .slice none 0 0] := by rw [← hW0]; exact RowAt.alloc (RowAt.new _ _ _) _
  have b0 : RowAt W0 (w.heap.size + 1) 101 #[.string ⟨#[]⟩, .slice none 0 0, .slice none 0 0, .slice none 0 0, .slice none 0 0, .slice none 0 0, .slice none 0 0, .slice none 0 0, .slice none 0 0, .int .i64 0] := by rw [← hW0]; exact RowAt.mk (by simp) rfl
  have B0 : Below w.heap.size w W0 := by rw [← hW0]; (repeat' (first | (with_reducible exact Below.refl _ _) | (with_reducible assumption) | (with_reducible refine below_run ?_ (by assumption)) | (with_reducible refine below_of_upd ?_ (by assumption) ?_) | (with_reducible refine below_drewN ?_ _) | (with_reducible refine Below.drew ?_) | (with_reducible refine below_seven ?_ ?_) | (with_reducible refine below_six ?_ ?_) | (with_reducible refine below_one ?_ ?_) | (with_reducible refine Below.alloc ?_ ?_ _) | (with_reducible refine below_after ?_ ?_ (by assumption)) | (show _ ≤ _; first | omega | (simp; done) | (simp; omega))))
  have C1 := Lib.hid (kinds_any (w.heap.size + 1) W0)
  obtain ⟨W1, hW1⟩ : ∃ W, W0.alloc (.map (kindsM (w.heap.size + 1)) 11) = W := ⟨_, rfl⟩
  have m1 : W1.heap[W0.heap.size]? = some (.map (kindsM (w.heap.size + 1)) 11) := by rw [← hW1]; exact heap_alloc_new _ _
  have k1 : Below W0.heap.size W0 W1 := by rw [← hW1]; (repeat' (first | (with_reducible exact Below.refl _ _) | (with_reducible assumption) | (with_reducible refine below_run ?_ (by assumption)) | (with_reducible refine below_of_upd ?_ (by assumption) ?_) | (with_reducible refine below_drewN ?_ _) | (with_reducible refine Below.drew ?_) | (with_reducible refine below_seven ?_ ?_) | (with_reducible refine below_six ?_ ?_) | (with_reducible refine below_one ?_ ?_) | (with_reducible refine Below.alloc ?_ ?_ _) | (with_reducible refine below_after ?_ ?_ (by assumption)) | (show _ ≤ _; first | omega | (simp; done) | (simp; omega))))
  have z1 : W1.heap.size = w.heap.size + 3 := by rw [← hW1]; simp [z0]
  rw [hW1] at C1
  have s1 := s0.run k1
  have b1 := b0.run k1
  have B1 := B0.trans (k1.mono B0.size)
  have hl := fun (W : World) (hb : Below W1.heap.size W1 W) => kinds_head (w.heap.size + 1) W0.heap.size W ((hb.block _ (lt_of_block m1)).trans m1)
  have g1 : W1.cell? ⟨g, 0, none⟩ = some (.int .i64 1) ∧ W1.cell? ⟨g, 1, none⟩ = some (.string exHead) := ⟨(B1.cell (p := ⟨g, 0, none⟩) hg).trans hc0, (B1.cell (p := ⟨g, 1, none⟩) hg).trans hc1⟩
  have H1 := Lib.hid (And.intro g1 (And.intro s1 (And.intro b1 (And.intro B1 hl))))
  obtain ⟨x1, x2⟩ := g1
  have hl1 := hl (W1.alloc (.cells #[.int .i64 1, .string exHead] 77)) (by (repeat' (first | (with_reducible exact Below.refl _ _) | (with_reducible assumption) | (with_reducible refine below_run ?_ (by assumption)) | (with_reducible refine below_of_upd ?_ (by assumption) ?_) | (with_reducible refine below_drewN ?_ _) | (with_reducible refine Below.drew ?_) | (with_reducible refine below_seven ?_ ?_) | (with_reducible refine below_six ?_ ?_) | (with_reducible refine below_one ?_ ?_) | (with_reducible refine Below.alloc ?_ ?_ _) | (with_reducible refine below_after ?_ ?_ (by assumption)) | (show _ ≤ _; first | omega | (simp; done) | (simp; omega)))))
  have Z := Lib.hid (And.intro z0 z1)
  clear z0 z1
  have C2 := Lib.hid (fun W => follows_any 0 1 W)
  clear hW1 s0 b0 B0 s1 b1 B1 hl k1 m1 hg hc0 hc1
  go_enter Tryz.func19, Tryz.ntmps19
  go_wp2_with fail
  clear hW0
  refine C1.out.mono ?_
  rintro e w1 ⟨rfl, rfl⟩
  go_wp2_with fail
  refine wp_loop_rounds 2 ?_
  rw [rounds_succ]
  go_wp2_with fail
  refine (C2.out _).mono ?_
  rintro e w2 ⟨rfl, rfl⟩
  have hf : folB 0 1 = true := rfl
  rw [hf]
  have b2 := H1.out.2.2.1
  obtain ⟨W3, hW3⟩ : ∃ W, ((w1.alloc (.cells #[.int .i64 1, .string exHead] 77)).alloc (.cells #[.func (.func 121) #[.pointer (some ⟨w.heap.size + 1, 0, none⟩)] #[]] 104)) = W := ⟨_, rfl⟩
  have e3 : RowAt W3 w1.heap.size 77 #[.int .i64 1, .string exHead] := by rw [← hW3]; exact RowAt.alloc (RowAt.new _ _ _) _
  have f3 : RowAt W3 (w1.heap.size + 1) 104 #[.func (.func 121) #[.pointer (some ⟨w.heap.size + 1, 0, none⟩)] #[]] := by rw [← hW3]; exact RowAt.mk (by simp) rfl
  have b3 := b2.run (show Below w1.heap.size w1 W3 from by rw [← hW3]; (repeat' (first | (with_reducible exact Below.refl _ _) | (with_reducible assumption) | (with_reducible refine below_run ?_ (by assumption)) | (with_reducible refine below_of_upd ?_ (by assumption) ?_) | (with_reducible refine below_drewN ?_ _) | (with_reducible refine Below.drew ?_) | (with_reducible refine below_seven ?_ ?_) | (with_reducible refine below_six ?_ ?_) | (with_reducible refine below_one ?_ ?_) | (with_reducible refine Below.alloc ?_ ?_ _) | (with_reducible refine below_after ?_ ?_ (by assumption)) | (show _ ≤ _; first | omega | (simp; done) | (simp; omega)))))
  have B3 := Lib.hid (show Below w1.heap.size w1 W3 from by rw [← hW3]; (repeat' (first | (with_reducible exact Below.refl _ _) | (with_reducible assumption) | (with_reducible refine below_run ?_ (by assumption)) | (with_reducible refine below_of_upd ?_ (by assumption) ?_) | (with_reducible refine below_drewN ?_ _) | (with_reducible refine Below.drew ?_) | (with_reducible refine below_seven ?_ ?_) | (with_reducible refine below_six ?_ ?_) | (with_reducible refine below_one ?_ ?_) | (with_reducible refine Below.alloc ?_ ?_ _) | (with_reducible refine below_after ?_ ?_ (by assumption)) | (show _ ≤ _; first | omega | (simp; done) | (simp; omega)))))
  obtain ⟨y1, y2, y3, y4, y5, y6⟩ := row_facts b3
  obtain ⟨k1, k2, k3, k4, k5, k6⟩ := row_facts e3
  rw [hW3]
  have HR := Lib.hid (And.intro e3 (And.intro f3 b3))
  clear hW3 b2 b3 f3 e3 x1 x2
  go_wp2_with fail
  have e4 := RowAt.far1 (i := 9) (u := .int .i64 0) HR.out.1 (show ¬ w1.heap.size = w.heap.size + 1 from by have := Z.out; omega)
  have f4 := RowAt.far1 (i := 9) (u := .int .i64 0) HR.out.2.1 (show ¬ w1.heap.size + 1 = w.heap.size + 1 from by have := Z.out; omega)
  have b4 : RowAt (W3.setCell ⟨w.heap.size + 1, 9, none⟩ (.int .i64 0)) (w.heap.size + 1) 101 #[.string ⟨#[]⟩, .slice none 0 0, .slice none 0 0, .slice none 0 0, .slice none 0 0, .slice none 0 0, .slice none 0 0, .slice none 0 0, .slice none 0 0, .int .i64 0] := RowAt.set HR.out.2.2 rfl
  have s4 := RowAt.far1 (i := 9) (u := .int .i64 0) (H1.out.2.1.run B3.out) (show ¬ w.heap.size = w.heap.size + 1 from by omega)
  have B4 : Below w.heap.size w (W3.setCell ⟨w.heap.size + 1, 9, none⟩ (.int .i64 0)) := below_one (H1.out.2.2.2.1.trans (B3.out.mono H1.out.2.2.2.1.size)) (by omega)
  have hz4 : (W3.setCell ⟨w.heap.size + 1, 9, none⟩ (.int .i64 0)).heap.size ≥ w.heap.size + 3 := by have := B3.out.size; have := Z.out; simp; omega
  clear hst k1 k2 k3 k4 k5 k6 y1 y2 y3 y4 y5 y6
  generalize W3.setCell ⟨w.heap.size + 1, 9, none⟩ (.int .i64 0) = W4 at e4 f4 b4 s4 B4 hz4 ⊢
  have n4 : RowAt (W4.alloc (.cells #[.int .i64 0] 35)) W4.heap.size 35 #[.int .i64 0] := RowAt.new _ _ _
  have C5 := build1_head w1.heap.size (w1.heap.size + 1) (w.heap.size + 1) 101 1 exHead #[.string ⟨#[]⟩, .slice none 0 0, .slice none 0 0, .slice none 0 0, .slice none 0 0, .slice none 0 0, .slice none 0 0, .slice none 0 0, .slice none 0 0, .int .i64 0] (W4.alloc (.cells #[.int .i64 0] 35)) (RowAt.alloc e4 _) (RowAt.alloc f4 _) (RowAt.alloc b4 _) (by simp) (by decide)
  rw [ex_head] at C5
  refine (try_ok 50 _ W4 (fun wx => Upd (w.heap.size + 1) W4 wx) build1_enters (C5.mono fun e w' h => ⟨by rw [h.1, if_pos (show (2 : Nat) = exHead.size from rfl)], RowAt.upd n4 h.2.2 (by omega), upd_trans (upd_alloc (upd_refl _ _) _) h.2.2⟩)).mono ?_
  rintro e w5 ⟨rfl, wx, hu5, hu6⟩
  have e5 := RowAt.upd (RowAt.upd e4 hu5 (by have := Z.out; omega)) hu6 (by have := lt_of_block e4; omega)
  obtain ⟨k1, k2, k3, k4, k5, k6⟩ := row_facts e5
  have s5 := RowAt.upd (RowAt.upd s4 hu5 (by omega)) hu6 (by omega)
  have B5 : Below w.heap.size w w5 := below_of_upd (below_of_upd B4 hu5 (by omega)) hu6 (by omega)
  have H5 := Lib.hid (And.intro s5 B5)
  obtain ⟨y1, y2, y3, y4, y5, y6⟩ := row_facts s5
  clear hu5 hu6 s5 B5 s4 B4 b4 e4 f4 n4 C5 e5
  go_wp2
  rw [rounds_succ]
  go_wp2
  have hF := RowAt.nine (v0 := .string ⟨#[]⟩) (v1 := .slice none 0 0) (v2 := .slice none 0 0) (v3 := .slice none 0 0) (v4 := .slice none 0 0) (v5 := .slice none 0 0) (v6 := .slice none 0 0) (v7 := .slice none 0 0) (v8 := .slice none 0 0) H5.out.1
  obtain ⟨Wz, hWz⟩ : ∃ W, (((((((((w5.setCell ⟨w.heap.size, 0, none⟩ (.string ⟨#[]⟩)).setCell ⟨w.heap.size, 1, none⟩ (.slice none 0 0)).setCell ⟨w.heap.size, 2, none⟩ (.slice none 0 0)).setCell ⟨w.heap.size, 3, none⟩ (.slice none 0 0)).setCell ⟨w.heap.size, 4, none⟩ (.slice none 0 0)).setCell ⟨w.heap.size, 5, none⟩ (.slice none 0 0)).setCell ⟨w.heap.size, 6, none⟩ (.slice none 0 0)).setCell ⟨w.heap.size, 7, none⟩ (.slice none 0 0)).setCell ⟨w.heap.size, 8, none⟩ (.slice none 0 0)) = W := ⟨_, rfl⟩
  have hB : Below w.heap.size w Wz := by rw [← hWz]; exact below_of_upd H5.out.2 upd_set9 (Nat.le_refl _)
  rw [hWz] at hF ⊢
  have f0 := cell_h hF 0
  have f1 := cell_h hF 1
  have f2 := cell_h hF 2
  have f3 := cell_h hF 3
  have f4 := cell_h hF 4
  have f5 := cell_h hF 5
  have f6 := cell_h hF 6
  have f7 := cell_h hF 7
  have f8 := cell_h hF 8
  simp only [List.getElem?_toArray] at f0 f1 f2 f3 f4 f5 f6 f7 f8
  refine bodyPost_ret (v := .tuple #[.agg #[.string ⟨#[]⟩, .slice none 0 0, .slice none 0 0, .slice none 0 0, .slice none 0 0, .slice none 0 0, .slice none 0 0, .slice none 0 0, .slice none 0 0], .int .i64 1, .int .i64 20]) ?_ rfl ⟨rfl, hB⟩
  simp [results, Tryz.results19, go_sem, f0, f1, f2, f3, f4, f5, f6, f7, f8]

end Go.Proofs.YtjeigphhepngmaaGreatDoor

namespace Go.Proofs.YtjeigphhepngmaaGreatDoor
open Go.RowKit

/-- What All leaves of the seven bytes. -/
theorem all_ex (w : World) : Calls Tryz.prog 65 #[.string ⟨#[1, 0, 2, 6, 0, 23, 9]⟩] w fun e w' => ∃ g cap, e = .returned (.tuple #[.slice (some ⟨g, 0, none⟩) 1 cap, .int .i64 7, .int .i64 0]) ∧ g < w'.heap.size ∧ 1 ≤ cap ∧ w'.cell? ⟨g, 0, none⟩ = some (.int .i64 1) ∧ w'.cell? ⟨g, 1, none⟩ = some (.string exHead) ∧ ListAt 2 entA w' (.slice (some ⟨g, 0, none⟩) 1 cap) [(1, exHead)] ∧ Below w.heap.size w w' := by
  refine (all_any ⟨#[1, 0, 2, 6, 0, 23, 9]⟩ w (by decide)).mono ?_
  rintro e w' ⟨v, he, hown, hb, _⟩
  rw [ex_all] at he hown
  have hL := own_list (S := 2) (f := entA) (l := [(1, exHead)]) (by decide) entA_size hown (by decide)
  obtain ⟨a, cap, rfl, hcap⟩ := own_shape hown
  rcases hown.2 with ⟨h0, _⟩ | ⟨g, cap', cur, hv, _, hg, _⟩
  · cases h0
  · cases hv
    rcases hL with ⟨h0, _⟩ | ⟨h0, h1, b, off, cap2, hv2, hlt, hc⟩
    · simp at h0
    · have hL2 : ListAt 2 entA w' (.slice (some ⟨g, 0, none⟩) 1 cap) [(1, exHead)] := .inr ⟨h0, h1, b, off, cap2, hv2, hlt, hc⟩
      cases hv2
      obtain ⟨c0, c1⟩ := ent_cells hc 0 (1, exHead) rfl
      exact ⟨_, _, he, hlt, hcap, c0, c1, hL2, hb⟩

set_option maxHeartbeats 1000000 in
set_option maxRecDepth 100000 in
theorem load_ex (w : World) : Calls Tryz.prog 24 #[.string ⟨#[1, 0, 2, 6, 0, 23, 9]⟩] w fun e w' => e = .returned (.tuple #[.agg #[.string ⟨#[]⟩, .slice none 0 0, .slice none 0 0, .slice none 0 0, .slice none 0 0, .slice none 0 0, .slice none 0 0, .slice none 0 0, .slice none 0 0], .int .i64 7, .int .i64 20]) ∧ Below w.heap.size w w' := by
  have s0 : RowAt (w.alloc (.cells #[.string ⟨#[]⟩, .slice none 0 0, .slice none 0 0, .slice none 0 0, .slice none 0 0, .slice none 0 0, .slice none 0 0, .slice none 0 0, .slice none 0 0] 31)) w.heap.size 31 #[.string ⟨#[]⟩, .slice none 0 0, .slice none 0 0, .slice none 0 0, .slice none 0 0, .slice none 0 0, .slice none 0 0, .slice none 0 0, .slice none 0 0] := RowAt.new _ _ _
  have B0 : Below w.heap.size w (w.alloc (.cells #[.string ⟨#[]⟩, .slice none 0 0, .slice none 0 0, .slice none 0 0, .slice none 0 0, .slice none 0 0, .slice none 0 0, .slice none 0 0, .slice none 0 0] 31)) := by (repeat' (first | (with_reducible exact Below.refl _ _) | (with_reducible assumption) | (with_reducible refine below_run ?_ (by assumption)) | (with_reducible refine below_of_upd ?_ (by assumption) ?_) | (with_reducible refine below_drewN ?_ _) | (with_reducible refine Below.drew ?_) | (with_reducible refine below_seven ?_ ?_) | (with_reducible refine below_six ?_ ?_) | (with_reducible refine below_one ?_ ?_) | (with_reducible refine Below.alloc ?_ ?_ _) | (with_reducible refine below_after ?_ ?_ (by assumption)) | (show _ ≤ _; first | omega | (simp; done) | (simp; omega))))
  have C1 := Lib.hid (all_ex (w.alloc (.cells #[.string ⟨#[]⟩, .slice none 0 0, .slice none 0 0, .slice none 0 0, .slice none 0 0, .slice none 0 0, .slice none 0 0, .slice none 0 0, .slice none 0 0] 31)))
  have H0 := Lib.hid (And.intro s0 B0)
  clear s0 B0
  go_enter Tryz.func24, Tryz.ntmps24
  go_wp2_with fail
  refine C1.out.mono ?_
  rintro e w1 ⟨g, cap, rfl, hg, hcap, c0, c1, hL, hb1⟩
  have hcap3 : (1 : Int) ≤ (cap : Int) := by omega
  have s1 := H0.out.1.run hb1
  have B1 := H0.out.2.trans (hb1.mono H0.out.2.size)
  have H1 := Lib.hid (And.intro s1 (And.intro B1 hL))
  clear hb1 s1 B1 hL
  go_wp2_with fail
  refine (build_head g cap w1 hg c0 c1).mono ?_
  rintro e w2 ⟨rfl, hb2⟩
  have hs2 := hb2.size
  have hb2' : Below w1.heap.size w1 (w2.alloc (.cells #[.string ⟨#[]⟩, .slice none 0 0, .slice none 0 0, .slice none 0 0, .slice none 0 0, .slice none 0 0, .slice none 0 0, .slice none 0 0, .slice none 0 0] 31)) := by (repeat' (first | (with_reducible exact Below.refl _ _) | (with_reducible assumption) | (with_reducible refine below_run ?_ (by assumption)) | (with_reducible refine below_of_upd ?_ (by assumption) ?_) | (with_reducible refine below_drewN ?_ _) | (with_reducible refine Below.drew ?_) | (with_reducible refine below_seven ?_ ?_) | (with_reducible refine below_six ?_ ?_) | (with_reducible refine below_one ?_ ?_) | (with_reducible refine Below.alloc ?_ ?_ _) | (with_reducible refine below_after ?_ ?_ (by assumption)) | (show _ ≤ _; first | omega | (simp; done) | (simp; omega))))
  have H2 := Lib.hid (And.intro (H1.out.1.run hb2') (And.intro (H1.out.2.1.trans (hb2'.mono H1.out.2.1.size)) (H1.out.2.2.run hb2')))
  clear hb2 hb2' c0 c1 hg
  go_wp2_with fail
  refine (join_any _ [(1, exHead)] _ H2.out.2.2 (by decide)).mono ?_
  rintro e w4 ⟨rfl, hb4⟩
  rw [ex_join1]
  have s4 := H2.out.1.run hb4
  have H4 := Lib.hid (And.intro s4 (H2.out.2.1.trans (hb4.mono H2.out.2.1.size)))
  obtain ⟨y1, y2, y3, y4, y5, y6⟩ := row_facts s4
  clear s4 hb4
  go_wp2
  have hF := RowAt.nine (v0 := .string ⟨#[]⟩) (v1 := .slice none 0 0) (v2 := .slice none 0 0) (v3 := .slice none 0 0) (v4 := .slice none 0 0) (v5 := .slice none 0 0) (v6 := .slice none 0 0) (v7 := .slice none 0 0) (v8 := .slice none 0 0) H4.out.1
  obtain ⟨Wz, hWz⟩ : ∃ W, (((((((((w4.setCell ⟨w.heap.size, 0, none⟩ (.string ⟨#[]⟩)).setCell ⟨w.heap.size, 1, none⟩ (.slice none 0 0)).setCell ⟨w.heap.size, 2, none⟩ (.slice none 0 0)).setCell ⟨w.heap.size, 3, none⟩ (.slice none 0 0)).setCell ⟨w.heap.size, 4, none⟩ (.slice none 0 0)).setCell ⟨w.heap.size, 5, none⟩ (.slice none 0 0)).setCell ⟨w.heap.size, 6, none⟩ (.slice none 0 0)).setCell ⟨w.heap.size, 7, none⟩ (.slice none 0 0)).setCell ⟨w.heap.size, 8, none⟩ (.slice none 0 0)) = W := ⟨_, rfl⟩
  have hB : Below w.heap.size w Wz := by rw [← hWz]; exact below_of_upd H4.out.2 upd_set9 (Nat.le_refl _)
  rw [hWz] at hF ⊢
  have f0 := cell_h hF 0
  have f1 := cell_h hF 1
  have f2 := cell_h hF 2
  have f3 := cell_h hF 3
  have f4 := cell_h hF 4
  have f5 := cell_h hF 5
  have f6 := cell_h hF 6
  have f7 := cell_h hF 7
  have f8 := cell_h hF 8
  simp only [List.getElem?_toArray] at f0 f1 f2 f3 f4 f5 f6 f7 f8
  refine bodyPost_ret (v := .tuple #[.agg #[.string ⟨#[]⟩, .slice none 0 0, .slice none 0 0, .slice none 0 0, .slice none 0 0, .slice none 0 0, .slice none 0 0, .slice none 0 0, .slice none 0 0], .int .i64 7, .int .i64 20]) ?_ rfl ⟨rfl, hB⟩
  simp [results, Tryz.results24, go_sem, f0, f1, f2, f3, f4, f5, f6, f7, f8]

end Go.Proofs.YtjeigphhepngmaaGreatDoor
