/-
  The law NumberAscends returns true for every input, and its arguments read behind the call as before; the library's listed variables hold what the program's text lays, as the card ties it. No other condition.
-/
import Derived.Test.YtnkgpfcoidilnaaDoorT5
import Derived.Test.YtnkgpfcoidilnaaDoorOpnP
import Derived.Test.YtnkgpfcoidilnaaDoorCards
import Derived.Test.YtnkgpfcoidilnaaDoorTie
import Derived.Lay
import Derived.Lib.LaidTab
import Derived.SevenTiedAt
import Derived.LaidOnce
import Derived.Stop.LaidErr
import Derived.SizedLaws
namespace Go.Proofs.YtnkgpfcoidilnaaDoor
open Go.ChangeShapes Go.WideShapes Go.ChangeAt Go.RowKit
open Go.ChangeMaps (open_string shut_string)
set_option linter.unusedVariables false

theorem own5A : ownKnob Tryd.prog.godebug = none := by kernel_rfl
theorem laidOut5A : laidOutB Tryd.prog = true := by kernel_rfl

theorem pow10_list : Lib.pow10Tab = [1, 10, 100, 1000, 10000, 100000, 1000000, 10000000, 100000000, 1000000000, 10000000000, 100000000000, 1000000000000, 10000000000000, 100000000000000, 1000000000000000, 10000000000000000, 100000000000000000, 1000000000000000000, 10000000000000000000] := by decide
theorem tab5A {W : World} (h : laidMet Tryd.prog Rows.numberAscendsRow.laid W) : Pow W := by
  unfold Pow
  rw [pow10_list]
  exact (Lib.tabIs_of_head (g := 3) (n := 20) (t := 112) (e := 97) (by kernel_rfl) (by kernel_rfl) Tryd.underlying112 Tryd.underlying97 (by kernel_rfl) (by kernel_rfl) (laidMet.tail (laidMet.tail h)) : Lib.TabIs Tryd.prog W "internal/strconv.uint64pow10" .u64 [1, 10, 100, 1000, 10000, 100000, 1000000, 10000000, 100000000, 1000000000, 10000000000, 100000000000, 1000000000000, 10000000000000, 100000000000000, 1000000000000000, 10000000000000000, 100000000000000000, 1000000000000000000, 10000000000000000000])

set_option maxRecDepth 100000 in
theorem lifted5A (os : Os) (started : os.Started) (H : Type) (enc : TypeId × Value → H) :
    ReturnsInHanded {} Tryd.checked os 9 .any (fun w args => (Rows.numberAscendsSpec.pre enc Tryd.prog Tryd.f9 Rows.numberAscendsRow.domain false w args ∧ laidMetH Tryd.prog Rows.numberAscendsRow.laid w) ∧ sizedMet enc Tryd.prog Tryd.f9 (OpenSpec.ofChange Rows.numberAscendsSpec) false w args)
      (Rows.numberAscendsSpec.post enc Tryd.prog Tryd.f9 false true false false) := by
  refine returnsInHanded_of_change_and (C := Tryd.checked) (X := fun w _ => laidMetH Tryd.prog Rows.numberAscendsRow.laid w) (fun _ _ _ hh h => h.of_heap hh) own5A started (by kernel_rfl) Tryd.func9
    (ChangeSpec.witness_shaped (enc := enc) (C := Tryd.checked) (os := os) (X := fun w _ => laidMetH Tryd.prog Rows.numberAscendsRow.laid w) false (World.laidAll Tryd.prog os Rows.numberAscendsRow.laid) #[.slice none 0 0] 8 (World.laidAll_os _ _ _)
      (World.shaped_of_ZipB (by kernel_rfl) (by kernel_rfl)) (by kernel_rfl) (by kernel_rfl) (by kernel_rfl)
      (by rw [MakeChecks.laidMetH_plain _ _ _ (by kernel_rfl)]; exact laidMet_laidAll _ (by kernel_rfl) (by kernel_rfl))) ?_
  intro W base args ds gs before hval0 hW _ hsz0 hL0 _
  have hval : ∀ (j : Nat) t v, Tryd.f9.params[j]? = some t → args[j]? = some v → Value.okWide Tryd.prog W .any base t v := hval0
  have hsz : (DataW.weightsEach Tryd.prog (Tryd.f9.params.toList ++ Rows.numberAscendsSpec.plain.varTypes Tryd.prog) (ds ++ gs)).all (· ≤ reachBytes) = true := hsz0
  have hL : laidMetH Tryd.prog Rows.numberAscendsRow.laid W := hL0
  clear hsz0 hL0
  have hW' := hW
  obtain ⟨p, q, hA0, hV, rfl, hfz, hnd⟩ := hW
  have hA : DataW.TrodAll enc Tryd.prog W 0 (fun _ => true) true Tryd.f9.params.toList args.toList ds p := hA0
  rw [Tryd.params9] at hA hval hsz
  obtain ⟨v0, vs0, d0, ds0, p0, q0, hargs, rfl, rfl, h0, r0⟩ := trodAll_cons hA
  obtain ⟨rfl, rfl, rfl⟩ := trodAll_nil r0
  obtain rfl : args = #[v0] := by cases args; simp_all
  obtain ⟨rfl, rfl⟩ := trodVars_none hV
  have k0 := h0
  have lt0 : ∀ x ∈ p0, x.block < W.heap.size := by obtain ⟨m, hm⟩ := k0; exact DataW.trod_lt m _ _ _ hm
  obtain ⟨l0, hl0⟩ : ∃ l : List ByteArray, StrsAt W v0 l := by
    rcases open_strs46 (hval 0 47 v0 rfl rfl) h0 with ⟨rfl, _⟩ | ⟨elems, sp, l, rfl, hel, hl⟩
    · exact ⟨[], .inl ⟨rfl, _, _, rfl⟩⟩
    · have hw := sized_slice hsz (j := 0) (t := 47) (e := 9) rfl rfl Tryd.underlying47
      have hb : Tryd.prog.bytesOf 9 = 16 := by kernel_rfl
      have hre : reachBytes = 140737488351232 := rfl
      rw [hb, hre, hel] at hw
      exact ⟨l, hl (by omega)⟩
  rw [MakeChecks.laidMetH_plain _ _ _ (by kernel_rfl)] at hL
  clear hA0 hval0
  refine (law_ascends v0 l0 W (tab5A hL) hl0).mono fun e W' ⟨he, bel⟩ => ?_
  subst he
  exact ⟨_, rfl, _, _, _, [], _, [], hW', trodAll_mk1 (shut_bool Tryd.underlying4 _), (trodAll_cons_mk (Below.trod laidOut5A (by kernel_rfl) (of_decide_eq_true (by kernel_rfl)) k0 bel lt0) trodAll_mk0), rfl, bel.frame _, fun h => by cases h⟩

theorem over5A : Rows.numberAscendsRow.holds Tryd.pinned (OpenSpec.ofChange Rows.numberAscendsSpec) :=
  OpenClaim.holds_of_wide 9 Tryd.f9 rfl rfl rfl rfl rfl rfl rfl ⟨rfl, rfl, rfl, rfl, rfl⟩ rfl rfl rfl rfl rfl (by kernel_rfl) Tryd.func9 (by kernel_rfl)
    (of_decide_eq_true (by kernel_rfl)) (by unfold Func.isWrapper; first | (rw [if_pos (by decide +kernel)]; kernel_rfl) | (rw [if_neg (by decide +kernel)]; exact ⟨rfl, rfl⟩))
    (fun os started H enc _ => lifted5A os started H enc)

theorem plain5A (f : FuncId) (fn : Func) (hf : Tryd.pinned.checked.prog.funcNamed Rows.numberAscendsRow.func = some f) (hfn : Tryd.pinned.checked.prog.funcs[f]? = some fn) :
    true = Tryd.pinned.checked.prog.looks [] ∧ ∀ (j : Nat) t, fn.params[j]? = some t → Tryd.pinned.checked.prog.wantsStandIn t = false := by
  obtain rfl : f = 9 := Option.some.inj ((show Tryd.prog.funcNamed Rows.numberAscendsRow.func = some 9 by kernel_rfl).symm.trans hf) |>.symm
  obtain rfl : fn = Tryd.f9 := (Option.some.inj (Tryd.func9.symm.trans hfn)).symm
  refine ⟨by kernel_rfl, fun j t ht => ?_⟩
  rw [Tryd.params9] at ht
  have hm : t ∈ [47] := by simpa using Array.mem_of_getElem? ht
  have hall : ([47].all fun u => !Tryd.prog.wantsStandIn u) = true := by kernel_rfl
  exact (show Tryd.prog.wantsStandIn t = false by simpa using List.all_eq_true.1 hall t hm)

theorem numberAscends_holds : Rows.NumberAscendsCardSaid :=
  Claim7.holds_tied_plain_at .later [] _ _ _ _ over5A (fun _ h => by cases h) (by kernel_rfl) (fun _ h => by cases h) numberAscends_row_tie rfl ⟨rfl, rfl⟩ (by kernel_rfl) rfl plain5A (by kernel_rfl)
#print axioms numberAscends_holds
end Go.Proofs.YtnkgpfcoidilnaaDoor
