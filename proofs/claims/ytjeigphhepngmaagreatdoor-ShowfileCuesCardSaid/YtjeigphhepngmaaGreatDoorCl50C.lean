/-
  The law ShowfileCues returns true for every input, and its arguments read behind the call as before; the library's listed variables hold what the program's text lays, as the card ties it. No other condition.
-/
import Derived.Test.YtjeigphhepngmaaGreatDoorKg
import Derived.Test.YtjeigphhepngmaaGreatDoorKi
import Derived.Test.YtjeigphhepngmaaGreatDoorKkC
import Derived.Test.YtjeigphhepngmaaGreatDoorCards
import Derived.Test.YtjeigphhepngmaaGreatDoorTie
import Derived.Lay
import Derived.SevenTiedAt
import Derived.LaidOnce
import Derived.SizedLaws
import Derived.Stop.LaidErr
namespace Go.Proofs.YtjeigphhepngmaaGreatDoor
open Go.ChangeShapes Go.WideShapes Go.ChangeAt Go.RowKit
open Go.ChangeMaps (open_string shut_string)
set_option linter.unusedVariables false

theorem own50C : ownKnob Tryz.prog.godebug = none := by kernel_rfl
theorem laidOut50C : laidOutB Tryz.prog = true := fact_laidOut

set_option maxRecDepth 100000 in
theorem lifted50C (os : Os) (started : os.Started) (H : Type) (enc : TypeId × Value → H) :
    ReturnsInHanded {} Tryz.checked os 10 .any (fun w args => (Rows.showfileCuesSpec.pre enc Tryz.prog Tryz.f10 Rows.showfileCuesRow.domain false w args ∧ laidMetH Tryz.prog Rows.showfileCuesRow.laid w) ∧ sizedMet enc Tryz.prog Tryz.f10 (OpenSpec.ofChange Rows.showfileCuesSpec) false w args)
      (Rows.showfileCuesSpec.post enc Tryz.prog Tryz.f10 false true false false) := by
  refine returnsInHanded_of_change_and (C := Tryz.checked) (X := fun w _ => laidMetH Tryz.prog Rows.showfileCuesRow.laid w) (fun _ _ _ hh h => h.of_heap hh) own50C started (by kernel_rfl) Tryz.func10
    (ChangeSpec.witness_shaped (enc := enc) (C := Tryz.checked) (os := os) (X := fun w _ => laidMetH Tryz.prog Rows.showfileCuesRow.laid w) false (World.laidAll Tryz.prog os Rows.showfileCuesRow.laid) #[.agg (cueA zCue (.slice none 0 0) (.slice none 0 0)), .string ⟨#[]⟩] 8 (World.laidAll_os _ _ _)
      (World.shaped_of_ZipB (by kernel_rfl) (by kernel_rfl)) (by kernel_rfl) (by kernel_rfl) (by kernel_rfl)
      (by rw [MakeChecks.laidMetH_plain _ _ _ (by kernel_rfl)]; exact laidMet_laidAll _ (by kernel_rfl) (by kernel_rfl))) ?_
  intro W base args ds gs before hval0 hW _ hsz0 hL0 _
  have hval : ∀ (j : Nat) t v, Tryz.f10.params[j]? = some t → args[j]? = some v → Value.okWide Tryz.prog W .any base t v := hval0
  have hsz : (DataW.weightsEach Tryz.prog (Tryz.f10.params.toList ++ Rows.showfileCuesSpec.plain.varTypes Tryz.prog) (ds ++ gs)).all (· ≤ reachBytes) = true := hsz0
  have hL : laidMetH Tryz.prog Rows.showfileCuesRow.laid W := hL0
  clear hsz0 hL0
  have hW' := hW
  obtain ⟨p, q, hA0, hV, rfl, hfz, hnd⟩ := hW
  have hA : DataW.TrodAll enc Tryz.prog W 0 (fun _ => true) true Tryz.f10.params.toList args.toList ds p := hA0
  rw [Tryz.params10] at hA hval hsz
  obtain ⟨v0, vs0, d0, ds0, p0, q0, hargs, rfl, rfl, h0, r0⟩ := trodAll_cons hA
  obtain ⟨v1, vs1, d1, ds1, p1, q1, rfl, rfl, rfl, h1, r1⟩ := trodAll_cons r0
  obtain ⟨rfl, rfl, rfl⟩ := trodAll_nil r1
  obtain rfl : args = #[v0, v1] := by cases args; simp_all
  obtain ⟨rfl, rfl⟩ := trodVars_none hV
  have k0 := h0
  have lt0 : ∀ x ∈ p0, x.block < W.heap.size := by obtain ⟨m, hm⟩ := k0; exact DataW.trod_lt m _ _ _ hm
  have k1 := h1
  have lt1 : ∀ x ∈ p1, x.block < W.heap.size := by obtain ⟨m, hm⟩ := k1; exact DataW.trod_lt m _ _ _ hm
  have u0 : ∀ n ∈ DataW.weights Tryz.prog 64 d0, n ≤ reachBytes := fun n hn => by have := List.all_eq_true.1 hsz _ (DataW.weights_mem_each (j := 0) rfl rfl n hn); simpa using this
  have u1 : ∀ n ∈ DataW.weights Tryz.prog 9 d1, n ≤ reachBytes := fun n hn => by have := List.all_eq_true.1 hsz _ (DataW.weights_mem_each (j := 1) rfl rfl n hn); simpa using this
  obtain ⟨c0, rfl, R0⟩ : ∃ x : CueX, v0 = .agg (cueXA x) ∧ RCue W x := by
    obtain ⟨cs, rfl, hcs⟩ := okWide_struct Tryz.underlying64 (hval 0 64 v0 rfl rfl)
    obtain ⟨fuel, hf⟩ := h0
    obtain ⟨x, ex, hx⟩ := opens_cue enc W 0 fuel _ _ cs.toList _ (by simpa [Value.cells] using hf) u0
    exact ⟨x, congrArg Value.agg (Array.ext' ex), hx⟩
  obtain ⟨a1, rfl, rfl, rfl, w1⟩ := open_string Tryz.underlying9 (hval 1 9 v1 rfl rfl) h1
  have z1 : a1.size ≤ 140737488351232 := by
    have hre : reachBytes = 140737488351232 := rfl
    have := sized_string hsz (j := 1) (t := 9) rfl rfl
    rw [hre] at this
    simpa using this
  clear hA0 hval0 hL
  refine (law_cues c0.1 c0.2.1 c0.2.2 a1 W R0.at_ R0.ok R0.cap1 (by have := R0.num; omega) (by have := R0.link; omega) (by omega)).mono fun e W' ⟨he, bel⟩ => ?_
  subst he
  exact ⟨_, rfl, _, _, _, [], _, [], hW', trodAll_mk1 (shut_bool Tryz.underlying4 _), (trodAll_cons_mk (Below.trod laidOut50C (by kernel_rfl) (of_decide_eq_true (by kernel_rfl)) k0 bel lt0) (trodAll_cons_mk (Below.trod laidOut50C (by kernel_rfl) (of_decide_eq_true (by kernel_rfl)) k1 bel lt1) trodAll_mk0)), rfl, bel.frame _, fun h => by cases h⟩

theorem over50C : Rows.showfileCuesRow.holds Tryz.pinned (OpenSpec.ofChange Rows.showfileCuesSpec) :=
  OpenClaim.holds_of_wide 10 Tryz.f10 rfl rfl rfl rfl rfl rfl rfl ⟨rfl, rfl, rfl, rfl, rfl⟩ rfl rfl rfl rfl rfl fact_fnC Tryz.func10 closedC
    (of_decide_eq_true (by kernel_rfl)) (by unfold Func.isWrapper; first | (rw [if_pos (by decide +kernel)]; kernel_rfl) | (rw [if_neg (by decide +kernel)]; exact ⟨rfl, rfl⟩))
    (fun os started H enc _ => lifted50C os started H enc)

theorem plain50C (f : FuncId) (fn : Func) (hf : Tryz.pinned.checked.prog.funcNamed Rows.showfileCuesRow.func = some f) (hfn : Tryz.pinned.checked.prog.funcs[f]? = some fn) :
    true = Tryz.pinned.checked.prog.looks [] ∧ ∀ (j : Nat) t, fn.params[j]? = some t → Tryz.pinned.checked.prog.wantsStandIn t = false := by
  obtain rfl : f = 10 := Option.some.inj (fact_fnC.symm.trans hf) |>.symm
  obtain rfl : fn = Tryz.f10 := (Option.some.inj (Tryz.func10.symm.trans hfn)).symm
  refine ⟨fact_looks, fun j t ht => ?_⟩
  rw [Tryz.params10] at ht
  have hm : t ∈ [64, 9] := by simpa using Array.mem_of_getElem? ht
  have hall : ([64, 9].all fun u => !Tryz.prog.wantsStandIn u) = true := by kernel_rfl
  exact (show Tryz.prog.wantsStandIn t = false by simpa using List.all_eq_true.1 hall t hm)

theorem showfileCues_holds : Rows.ShowfileCuesCardSaid :=
  Claim7.holds_tied_plain_at .later [] _ _ _ _ over50C (fun _ h => by cases h) (by kernel_rfl) (fun _ h => by cases h) showfileCues_row_tie rfl ⟨rfl, rfl⟩ fact_mainIs rfl plain50C (goesBy_none fact_anyGoes _ rfl)
#print axioms showfileCues_holds
end Go.Proofs.YtjeigphhepngmaaGreatDoor
