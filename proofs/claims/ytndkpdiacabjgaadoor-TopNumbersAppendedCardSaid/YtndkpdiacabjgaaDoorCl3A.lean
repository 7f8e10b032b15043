/-
  The law TopNumbersAppended returns true for every input, and its arguments read behind the call as before; the library's listed variables hold what the program's text lays, as the card ties it. No other condition.
-/
import Derived.Test.YtndkpdiacabjgaaDoorGm
import Derived.Test.YtndkpdiacabjgaaDoorOpnP
import Derived.Test.YtndkpdiacabjgaaDoorCards
import Derived.Test.YtndkpdiacabjgaaDoorTie
import Derived.Lay
import Derived.Lib.LaidTab
import Derived.SevenTiedAt
import Derived.LaidOnce
import Derived.SizedLaws
import Derived.Stop.LaidErr
namespace Go.Proofs.YtndkpdiacabjgaaDoor
open Go.ChangeShapes Go.WideShapes Go.ChangeAt Go.RowKit
open Go.ChangeMaps (open_string shut_string)
set_option linter.unusedVariables false

theorem own3A : ownKnob Tryd.prog.godebug = none := by kernel_rfl
theorem laidOut3A : laidOutB Tryd.prog = true := by kernel_rfl

theorem pow10_list : Lib.pow10Tab = [1, 10, 100, 1000, 10000, 100000, 1000000, 10000000, 100000000, 1000000000, 10000000000, 100000000000, 1000000000000, 10000000000000, 100000000000000, 1000000000000000, 10000000000000000, 100000000000000000, 1000000000000000000, 10000000000000000000] := by decide
theorem tab3A {W : World} (h : laidMet Tryd.prog Rows.topNumbersAppendedRow.laid W) : Pow W := by
  unfold Pow
  rw [pow10_list]
  exact (Lib.tabIs_of_head (g := 3) (n := 20) (t := 121) (e := 101) (by kernel_rfl) (by kernel_rfl) Tryd.underlying121 Tryd.underlying101 (by kernel_rfl) (by kernel_rfl) (laidMet.tail (laidMet.tail h)) : Lib.TabIs Tryd.prog W "internal/strconv.uint64pow10" .u64 [1, 10, 100, 1000, 10000, 100000, 1000000, 10000000, 100000000, 1000000000, 10000000000, 100000000000, 1000000000000, 10000000000000, 100000000000000, 1000000000000000, 10000000000000000, 100000000000000000, 1000000000000000000, 10000000000000000000])

set_option maxRecDepth 100000 in
theorem lifted3A (os : Os) (started : os.Started) (H : Type) (enc : TypeId × Value → H) :
    ReturnsInHanded {} Tryd.checked os 3 .any (fun w args => (Rows.topNumbersAppendedSpec.pre enc Tryd.prog Tryd.f3 Rows.topNumbersAppendedRow.domain false w args ∧ laidMetH Tryd.prog Rows.topNumbersAppendedRow.laid w) ∧ sizedMet enc Tryd.prog Tryd.f3 (OpenSpec.ofChange Rows.topNumbersAppendedSpec) false w args)
      (Rows.topNumbersAppendedSpec.post enc Tryd.prog Tryd.f3 false true false false) := by
  refine returnsInHanded_of_change_and (C := Tryd.checked) (X := fun w _ => laidMetH Tryd.prog Rows.topNumbersAppendedRow.laid w) (fun _ _ _ hh h => h.of_heap hh) own3A started (by kernel_rfl) Tryd.func3
    (ChangeSpec.witness_shaped (enc := enc) (C := Tryd.checked) (os := os) (X := fun w _ => laidMetH Tryd.prog Rows.topNumbersAppendedRow.laid w) false (World.laidAll Tryd.prog os Rows.topNumbersAppendedRow.laid) #[.string ⟨#[]⟩] 8 (World.laidAll_os _ _ _)
      (World.shaped_of_ZipB (by kernel_rfl) (by kernel_rfl)) (by kernel_rfl) (by kernel_rfl) (by kernel_rfl)
      (by rw [MakeChecks.laidMetH_plain _ _ _ (by kernel_rfl)]; exact laidMet_laidAll _ (by kernel_rfl) (by kernel_rfl))) ?_
  intro W base args ds gs before hval0 hW _ hsz0 hL0 _
  have hval : ∀ (j : Nat) t v, Tryd.f3.params[j]? = some t → args[j]? = some v → Value.okWide Tryd.prog W .any base t v := hval0
  have hsz : (DataW.weightsEach Tryd.prog (Tryd.f3.params.toList ++ Rows.topNumbersAppendedSpec.plain.varTypes Tryd.prog) (ds ++ gs)).all (· ≤ reachBytes) = true := hsz0
  have hL : laidMetH Tryd.prog Rows.topNumbersAppendedRow.laid W := hL0
  clear hsz0 hL0
  have hW' := hW
  obtain ⟨p, q, hA0, hV, rfl, hfz, hnd⟩ := hW
  have hA : DataW.TrodAll enc Tryd.prog W 0 (fun _ => true) true Tryd.f3.params.toList args.toList ds p := hA0
  rw [Tryd.params3] at hA hval hsz
  obtain ⟨v0, vs0, d0, ds0, p0, q0, hargs, rfl, rfl, h0, r0⟩ := trodAll_cons hA
  obtain ⟨rfl, rfl, rfl⟩ := trodAll_nil r0
  obtain rfl : args = #[v0] := by cases args; simp_all
  obtain ⟨rfl, rfl⟩ := trodVars_none hV
  have k0 := h0
  have lt0 : ∀ x ∈ p0, x.block < W.heap.size := by obtain ⟨m, hm⟩ := k0; exact DataW.trod_lt m _ _ _ hm
  obtain ⟨a0, rfl, rfl, rfl, w0⟩ := open_string Tryd.underlying9 (hval 0 9 v0 rfl rfl) h0
  rw [MakeChecks.laidMetH_plain _ _ _ (by kernel_rfl)] at hL
  clear hA0 hval0
  have hz0 : a0.size ≤ 140737488351232 := by
    have := sized_string hsz (j := 0) (t := 9) rfl rfl
    have hre : reachBytes = 140737488351232 := rfl
    rw [hre] at this
    simpa using this
  refine (law_appended a0 W (by omega) (tab3A hL)).mono fun e W' ⟨he, bel⟩ => ?_
  subst he
  exact ⟨_, rfl, _, _, _, [], _, [], hW', trodAll_mk1 (shut_bool Tryd.underlying4 _), (trodAll_cons_mk (Below.trod laidOut3A (by kernel_rfl) (of_decide_eq_true (by kernel_rfl)) k0 bel lt0) trodAll_mk0), rfl, bel.frame _, fun h => by cases h⟩

theorem over3A : Rows.topNumbersAppendedRow.holds Tryd.pinned (OpenSpec.ofChange Rows.topNumbersAppendedSpec) :=
  OpenClaim.holds_of_wide 3 Tryd.f3 rfl rfl rfl rfl rfl rfl rfl ⟨rfl, rfl, rfl, rfl, rfl⟩ rfl rfl rfl rfl rfl (by kernel_rfl) Tryd.func3 (by kernel_rfl)
    (of_decide_eq_true (by kernel_rfl)) (by unfold Func.isWrapper; first | (rw [if_pos (by decide +kernel)]; kernel_rfl) | (rw [if_neg (by decide +kernel)]; exact ⟨rfl, rfl⟩))
    (fun os started H enc _ => lifted3A os started H enc)

theorem plain3A (f : FuncId) (fn : Func) (hf : Tryd.pinned.checked.prog.funcNamed Rows.topNumbersAppendedRow.func = some f) (hfn : Tryd.pinned.checked.prog.funcs[f]? = some fn) :
    true = Tryd.pinned.checked.prog.looks [] ∧ ∀ (j : Nat) t, fn.params[j]? = some t → Tryd.pinned.checked.prog.wantsStandIn t = false := by
  obtain rfl : f = 3 := Option.some.inj ((show Tryd.prog.funcNamed Rows.topNumbersAppendedRow.func = some 3 by kernel_rfl).symm.trans hf) |>.symm
  obtain rfl : fn = Tryd.f3 := (Option.some.inj (Tryd.func3.symm.trans hfn)).symm
  refine ⟨by kernel_rfl, fun j t ht => ?_⟩
  rw [Tryd.params3] at ht
  have hm : t ∈ [9] := by simpa using Array.mem_of_getElem? ht
  have hall : ([9].all fun u => !Tryd.prog.wantsStandIn u) = true := by kernel_rfl
  exact (show Tryd.prog.wantsStandIn t = false by simpa using List.all_eq_true.1 hall t hm)

theorem topNumbersAppended_holds : Rows.TopNumbersAppendedCardSaid :=
  Claim7.holds_tied_plain_at .later [] _ _ _ _ over3A (fun _ h => by cases h) (by kernel_rfl) (fun _ h => by cases h) topNumbersAppended_row_tie rfl ⟨rfl, rfl⟩ (by kernel_rfl) rfl plain3A (by kernel_rfl)
#print axioms topNumbersAppended_holds
end Go.Proofs.YtndkpdiacabjgaaDoor
