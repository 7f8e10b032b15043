/-
  The program's try: the deferred closure, entered by a panic and without one; try itself.
-/
import Derived.Defers
import Derived.Recover
import Derived.Test.YtjeigphhepngmaaGreatDoorZg
namespace Go.Proofs.YtjeigphhepngmaaGreatDoor
open Go.RowKit

theorem as_bad (v : Value) (w : World) : (Instr.typeAssert (.iface 200 v) 20 200 true).run Tryz.prog w = .ok (.tuple #[v, .bool true]) w := by kernel_rfl

set_option maxHeartbeats 1000000 in
set_option maxRecDepth 100000 in
theorem catch_bad (k : Nat) (older : List PanicEntry) (w : World) (h : RowAt w k 35 #[.int .i64 0]) :
    CallsD Tryz.prog 132 #[.pointer (some ⟨k, 0, none⟩)] (.panicking ({ v := .iface 200 (.agg #[.int .i64 3]), recovered := false } :: older)) w fun e u' w' =>
      e = .returned (.tuple #[]) ∧ u' = .panicking ({ v := .iface 200 (.agg #[.int .i64 3]), recovered := true } :: older) ∧ RowAt w' k 35 #[.int .i64 3] ∧ Upd k w w' := by
  obtain ⟨x1, x2, x3, x4, x5, x6⟩ := row_facts h
  have h1 : RowAt (w.setCell ⟨k, 0, none⟩ (.int .i64 3)) k 35 #[.int .i64 3] := RowAt.set h rfl
  have h2 : RowAt ((w.setCell ⟨k, 0, none⟩ (.int .i64 3)).alloc (.cells #[.int .i64 3] 200)) k 35 #[.int .i64 3] := RowAt.alloc h1 _
  have h3 : Upd k w (w.setCell ⟨k, 0, none⟩ (.int .i64 3)) := upd_set (upd_refl _ _) _ _
  have h4 : Upd k w ((w.setCell ⟨k, 0, none⟩ (.int .i64 3)).alloc (.cells #[.int .i64 3] 200)) := upd_alloc h3 _
  have HS := Lib.hid (And.intro h2 h4)
  clear h1 h2 h3 h4
  clear h
  have hta := as_bad (.agg #[.int .i64 3])
  refine callsD_of_wpS Tryz.func132 rfl fun c₀ cs hu => ?_
  apply wpS_seq
  apply wpS_region
  simp [wpOpsS, go_sem, recoverD, hu, Tryz.ntmps132, Exit.thenS]
  refine wpS_of_wp ?_
  simp only [List.replicate, Array.replicate]
  go_wp2
  exact ⟨rfl, _, rfl, _, results_none rfl _ _ _, rfl, rfl, HS.out.1, HS.out.2⟩

set_option maxHeartbeats 1000000 in
set_option maxRecDepth 100000 in
theorem catch_idle (k : Nat) (w : World) :
    CallsD Tryz.prog 132 #[.pointer (some ⟨k, 0, none⟩)] .returning w fun e u' w' => e = .returned (.tuple #[]) ∧ u' = .returning ∧ w' = w := by
  refine callsD_of_wpS Tryz.func132 rfl fun c₀ cs hu => ?_
  apply wpS_seq
  apply wpS_region
  simp [wpOpsS, go_sem, recoverD, hu, Tryz.ntmps132, Exit.thenS]
  refine wpS_of_wp ?_
  simp only [List.replicate, Array.replicate]
  go_wp2
  exact ⟨rfl, _, by cases c₀; simp_all, _, results_none rfl _ _ _, rfl, rfl, rfl⟩

set_option maxHeartbeats 1000000 in
set_option maxRecDepth 100000 in
theorem try_ok (K : Nat) (caps : Array Value) (w : World) (R : World → Prop)
    (hk : ∀ args W, (callFunc K args).run Tryz.prog W = .ok (.enter K args) W)
    (h : Calls Tryz.prog K caps (w.alloc (.cells #[.int .i64 0] 35)) fun e w' => e = .returned (.tuple #[]) ∧ RowAt w' w.heap.size 35 #[.int .i64 0] ∧ R w')
    : Calls Tryz.prog 49 #[.func (.func K) #[] caps] w fun e w' => e = .returned (.int .i64 0) ∧ ∃ w1, R w1 ∧ Upd w.heap.size w1 w' := by
  have hmf : ∀ (fn : Fn) (first cap : Array Value) (w : World), (Instr.makeFunc fn first cap).run Tryz.prog w = .ok (.func fn first cap) w := fun _ _ _ _ => rfl
  have HC := Lib.hid h
  clear h
  go_enter_defers Tryz.func49, Tryz.ntmps49
  go_wp2_with fail
  refine HC.out.mono ?_
  rintro e w1 ⟨rfl, hr1, hR⟩
  obtain ⟨x1, x2, x3, x4, x5, x6⟩ := row_facts hr1
  have h1 : RowAt (w1.setCell ⟨w.heap.size, 0, none⟩ (.int .i64 0)) w.heap.size 35 #[.int .i64 0] := RowAt.set hr1 rfl
  have h2 : Upd w.heap.size w1 (w1.setCell ⟨w.heap.size, 0, none⟩ (.int .i64 0)) := upd_set (upd_refl _ _) _ _
  have HH := Lib.hid (And.intro hR h2)
  have f0 := cell_h h1 0
  simp at f0
  clear hR h2 hr1 h1
  go_wp2
  refine leaves_cons (f := 132) (args := #[.pointer (some ⟨w.heap.size, 0, none⟩)]) (by simp) (by simp [go_sem]) ?_
  refine (catch_idle w.heap.size _).mono ?_
  rintro e u' w2 ⟨rfl, rfl, rfl⟩
  exact ⟨_, by simp [results, Tryz.results49, go_sem, f0], rfl, _, HH.out⟩

set_option maxHeartbeats 1000000 in
set_option maxRecDepth 100000 in
theorem try_bad (K : Nat) (caps : Array Value) (w : World) (R : World → Prop)
    (hk : ∀ args W, (callFunc K args).run Tryz.prog W = .ok (.enter K args) W)
    (h : Calls Tryz.prog K caps (w.alloc (.cells #[.int .i64 0] 35)) fun e w' => e = BadE ∧ RowAt w' w.heap.size 35 #[.int .i64 0] ∧ R w')
    : Calls Tryz.prog 49 #[.func (.func K) #[] caps] w fun e w' => e = .returned (.int .i64 3) ∧ ∃ w1, R w1 ∧ Upd w.heap.size w1 w' := by
  have hmf : ∀ (fn : Fn) (first cap : Array Value) (w : World), (Instr.makeFunc fn first cap).run Tryz.prog w = .ok (.func fn first cap) w := fun _ _ _ _ => rfl
  have HC := Lib.hid h
  clear h
  go_enter_defers Tryz.func49, Tryz.ntmps49
  go_wp2_with fail
  refine HC.out.mono ?_
  rintro e w1 ⟨rfl, hr1, hR⟩
  simp only [BadE]
  go_wp2
  refine leaves_cons (f := 132) (args := #[.pointer (some ⟨w.heap.size, 0, none⟩)]) (by simp) (by simp [go_sem]) ?_
  refine (catch_bad w.heap.size [] _ hr1).mono ?_
  rintro e u' w2 ⟨rfl, rfl, hr2, hu2⟩
  have f0 := cell_h hr2 0
  simp at f0
  exact ⟨_, by simp [results, Tryz.results49, go_sem, f0], rfl, _, hR, hu2⟩

end Go.Proofs.YtjeigphhepngmaaGreatDoor
