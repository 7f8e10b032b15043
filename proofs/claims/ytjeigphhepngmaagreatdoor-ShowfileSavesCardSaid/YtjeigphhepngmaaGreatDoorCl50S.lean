/- -/
import Derived.Test.YtjeigphhepngmaaGreatDoorBg
import Derived.Test.YtjeigphhepngmaaGreatDoorBe
import Derived.Test.YtjeigphhepngmaaGreatDoorKkS
import Derived.Test.YtjeigphhepngmaaGreatDoorCards
import Derived.Test.YtjeigphhepngmaaGreatDoorTie
import Derived.Lay
import Derived.SevenTiedAt
import Derived.LaidOnce
import Derived.SizedLaws
import Derived.Stop.LaidErr
namespace Go.Proofs.YtjeigphhepngmaaGreatDoor
open Go.ChangeMaps (open_string shut_string)
open Go.ChangeShapes Go.WideShapes Go.ChangeAt Go.RowKit
set_option maxHeartbeats 8000000
set_option linter.unusedSimpArgs false
set_option linter.unusedVariables false
set_option maxRecDepth 100000
set_option linter.unusedVariables false
theorem own50S : ownKnob Tryz.prog.godebug = none := by kernel_rfl
theorem laidOut50S : laidOutB Tryz.prog = true := zeg
theorem lifted50S (os : Os) (started : os.Started) (H : Type) (enc : TypeId × Value → H) :
  ReturnsInHanded {} Tryz.checked os 5 .any (fun w args => (Rows.showfileSavesSpec.pre enc Tryz.prog Tryz.f5 Rows.showfileSavesRow.domain false w args ∧ laidMetH Tryz.prog Rows.showfileSavesRow.laid w) ∧ sizedMet enc Tryz.prog Tryz.f5 (OpenSpec.ofChange Rows.showfileSavesSpec) false w args)
   (Rows.showfileSavesSpec.post enc Tryz.prog Tryz.f5 false true false false) := by
 refine returnsInHanded_of_change_and (C := Tryz.checked) (X := fun w _ => laidMetH Tryz.prog Rows.showfileSavesRow.laid w) (fun _ _ _ hh h => h.of_heap hh) own50S started (by kernel_rfl) Tryz.func5
  (ChangeSpec.witness_shaped (enc := enc) (C := Tryz.checked) (os := os) (X := fun w _ => laidMetH Tryz.prog Rows.showfileSavesRow.laid w) false (World.laidAll Tryz.prog os Rows.showfileSavesRow.laid) #[.agg #[.string ⟨#[]⟩, .slice none 0 0, .slice none 0 0, .slice none 0 0, .slice none 0 0, .slice none 0 0, .slice none 0 0, .slice none 0 0, .slice none 0 0]] 8 (World.laidAll_os _ _ _)
   (World.shaped_of_ZipB (by kernel_rfl) (by kernel_rfl)) (by kernel_rfl) (by kernel_rfl) (by kernel_rfl)
   (by rw [MakeChecks.laidMetH_plain _ _ _ (by kernel_rfl)]; exact laidMet_laidAll _ (by kernel_rfl) (by kernel_rfl))) ?_
 intro W base args ds gs before hval0 hW _ hsz0 hL0 _
 have hval : ∀ (j : Nat) t v, Tryz.f5.params[j]? = some t → args[j]? = some v → Value.okWide Tryz.prog W .any base t v := hval0
 have hsz : (DataW.weightsEach Tryz.prog (Tryz.f5.params.toList ++ Rows.showfileSavesSpec.plain.varTypes Tryz.prog) (ds ++ gs)).all (· ≤ reachBytes) = true := hsz0
 have hL : laidMetH Tryz.prog Rows.showfileSavesRow.laid W := hL0
 clear hsz0 hL0
 have hW' := hW
 obtain ⟨p, q, hA0, hV, rfl, hfz, hnd⟩ := hW
 have hA : DataW.TrodAll enc Tryz.prog W 0 (fun _ => true) true Tryz.f5.params.toList args.toList ds p := hA0
 rw [Tryz.params5] at hA hval hsz
 obtain ⟨v0, vs0, d0, ds0, p0, q0, hargs, rfl, rfl, h0, r0⟩ := trodAll_cons hA
 obtain ⟨rfl, rfl, rfl⟩ := trodAll_nil r0
 obtain rfl : args = #[v0] := by cases args; simp_all
 obtain ⟨rfl, rfl⟩ := trodVars_none hV
 have k0 := h0
 have lt0 : ∀ x ∈ p0, x.block < W.heap.size := by obtain ⟨m, hm⟩ := k0; exact DataW.trod_lt m _ _ _ hm
 have u0 : ∀ n ∈ DataW.weights Tryz.prog 31 d0, n ≤ reachBytes := fun n hn => by have := List.all_eq_true.1 hsz _ (DataW.weights_mem_each (j := 0) rfl rfl n hn); simpa using this
 obtain ⟨c0, rfl, R0⟩ : ∃ x : ShowX, v0 = .agg (showXA x) ∧ RShowO W x := by
  obtain ⟨cs, rfl, hcs⟩ := okWide_struct Tryz.underlying31 (hval 0 31 v0 rfl rfl)
  obtain ⟨fuel, hf⟩ := h0
  obtain ⟨x, ex, hx⟩ := zh8 enc W 0 fuel _ _ cs.toList _ (by simpa [Value.cells] using hf) u0
  exact ⟨x, congrArg Value.agg (Array.ext' ex), hx⟩
 clear hA0 hval0 hL
 refine (zvb c0.1 c0.2 W R0.1 R0.2).mono fun e W' ⟨he, bel⟩ => ?_
 subst he
 exact ⟨_, rfl, _, _, _, [], _, [], hW', trodAll_mk1 (shut_bool Tryz.underlying4 _), (trodAll_cons_mk (Below.trod laidOut50S (by kernel_rfl) (of_decide_eq_true (by kernel_rfl)) k0 bel lt0) trodAll_mk0), rfl, bel.frame _, fun h => by cases h⟩
theorem over50S : Rows.showfileSavesRow.holds Tryz.pinned (OpenSpec.ofChange Rows.showfileSavesSpec) :=
 OpenClaim.holds_of_wide 5 Tryz.f5 rfl rfl rfl rfl rfl rfl rfl ⟨rfl, rfl, rfl, rfl, rfl⟩ rfl rfl rfl rfl rfl zi2 Tryz.func5 closedS
  (of_decide_eq_true (by kernel_rfl)) (by unfold Func.isWrapper; first | (rw [if_pos (by decide +kernel)]; kernel_rfl) | (rw [if_neg (by decide +kernel)]; exact ⟨rfl, rfl⟩))
  (fun os started H enc _ => lifted50S os started H enc)
theorem plain50S (f : FuncId) (fn : Func) (hf : Tryz.pinned.checked.prog.funcNamed Rows.showfileSavesRow.func = some f) (hfn : Tryz.pinned.checked.prog.funcs[f]? = some fn) :
  true = Tryz.pinned.checked.prog.looks [] ∧ ∀ (j : Nat) t, fn.params[j]? = some t → Tryz.pinned.checked.prog.wantsStandIn t = false := by
 obtain rfl : f = 5 := Option.some.inj (zi2.symm.trans hf) |>.symm
 obtain rfl : fn = Tryz.f5 := (Option.some.inj (Tryz.func5.symm.trans hfn)).symm
 refine ⟨zj0, fun j t ht => ?_⟩
 rw [Tryz.params5] at ht
 have hm : t ∈ [31] := by simpa using Array.mem_of_getElem? ht
 have hall : ([31].all fun u => !Tryz.prog.wantsStandIn u) = true := by kernel_rfl
 exact (show Tryz.prog.wantsStandIn t = false by simpa using List.all_eq_true.1 hall t hm)
theorem showfileSaves_holds : Rows.ShowfileSavesCardSaid :=
 Claim7.holds_tied_plain_at .later [] _ _ _ _ over50S (fun _ h => by cases h) (by kernel_rfl) (fun _ h => by cases h) showfileSaves_row_tie rfl ⟨rfl, rfl⟩ zir rfl plain50S (ziz zk6 _ rfl)
#print axioms showfileSaves_holds
end Go.Proofs.YtjeigphhepngmaaGreatDoor
