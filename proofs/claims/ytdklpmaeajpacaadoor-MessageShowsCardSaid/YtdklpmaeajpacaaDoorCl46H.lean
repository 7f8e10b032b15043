/-
  The law MessageShows returns true for every input, and its arguments read behind the call as before; the library's listed variables hold what the program's text lays, as the card ties it. No other condition.
-/
import Derived.Test.YtdklpmaeajpacaaDoorLwH
import Derived.Test.YtdklpmaeajpacaaDoorOpn
import Derived.Test.YtdklpmaeajpacaaDoorOpns
import Derived.Test.YtdklpmaeajpacaaDoorCards
import Derived.Test.YtdklpmaeajpacaaDoorTie
import Derived.Lay
import Derived.Lib.LaidTab
import Derived.SevenTiedAt
import Derived.LaidOnce
import Derived.Stop.LaidErr
import Derived.SizedLaws
namespace Go.Proofs.YtdklpmaeajpacaaDoor
open Go.ChangeShapes Go.WideShapes Go.ChangeAt Go.RowKit
open Go.ChangeMaps (open_string shut_string)
set_option linter.unusedVariables false

theorem own46H : ownKnob Tryd.prog.godebug = none := by kernel_rfl
theorem laidOut46H : laidOutB Tryd.prog = true := by kernel_rfl

theorem tab46H {W : World} (h : laidMet Tryd.prog Rows.messageShowsRow.laid W) : Tab W :=
  (Lib.tabIs_of_head (g := 6) (n := 64) (t := 155) (e := 5) (by kernel_rfl) (by kernel_rfl) Tryd.underlying155 Tryd.underlying5 (by kernel_rfl) (by kernel_rfl) (laidMet.tail h) : Lib.TabIs Tryd.prog W "math/bits.deBruijn64tab" .u8 [0, 1, 56, 2, 57, 49, 28, 3, 61, 58, 42, 50, 38, 29, 17, 4, 62, 47, 59, 36, 45, 43, 51, 22, 53, 39, 33, 30, 24, 18, 12, 5, 63, 55, 48, 27, 60, 41, 37, 16, 46, 35, 44, 21, 52, 32, 23, 11, 54, 26, 40, 15, 34, 20, 31, 10, 25, 14, 19, 9, 13, 8, 7, 6]).cell (g := 6) (by kernel_rfl) 15 (by decide)

set_option maxRecDepth 100000 in
theorem lifted46H (os : Os) (started : os.Started) (H : Type) (enc : TypeId × Value → H) :
    ReturnsInHanded {} Tryd.checked os 10 .any (fun w args => (Rows.messageShowsSpec.pre enc Tryd.prog Tryd.f10 Rows.messageShowsRow.domain false w args ∧ laidMetH Tryd.prog Rows.messageShowsRow.laid w) ∧ sizedMet enc Tryd.prog Tryd.f10 (OpenSpec.ofChange Rows.messageShowsSpec) false w args)
      (Rows.messageShowsSpec.post enc Tryd.prog Tryd.f10 false true false false) := by
  refine returnsInHanded_of_change_and (C := Tryd.checked) (X := fun w _ => laidMetH Tryd.prog Rows.messageShowsRow.laid w) (fun _ _ _ hh h => h.of_heap hh) own46H started (by kernel_rfl) Tryd.func10
    (ChangeSpec.witness_shaped (enc := enc) (C := Tryd.checked) (os := os) (X := fun w _ => laidMetH Tryd.prog Rows.messageShowsRow.laid w) false (World.laidAll Tryd.prog os Rows.messageShowsRow.laid) #[.slice none 0 0] 8 (World.laidAll_os _ _ _)
      (World.shaped_of_ZipB (by kernel_rfl) (by kernel_rfl)) (by kernel_rfl) (by kernel_rfl) (by kernel_rfl)
      (by rw [MakeChecks.laidMetH_plain _ _ _ (by kernel_rfl)]; exact laidMet_laidAll _ (by kernel_rfl) (by kernel_rfl))) ?_
  intro W base args ds gs before hval0 hW _ hsz0 hL0 _
  have hval : ∀ (j : Nat) t v, Tryd.f10.params[j]? = some t → args[j]? = some v → Value.okWide Tryd.prog W .any base t v := hval0
  have hsz : (DataW.weightsEach Tryd.prog (Tryd.f10.params.toList ++ Rows.messageShowsSpec.plain.varTypes Tryd.prog) (ds ++ gs)).all (· ≤ reachBytes) = true := hsz0
  have hL : laidMetH Tryd.prog Rows.messageShowsRow.laid W := hL0
  clear hsz0 hL0
  have hW' := hW
  obtain ⟨p, q, hA0, hV, rfl, hfz, hnd⟩ := hW
  have hA : DataW.TrodAll enc Tryd.prog W 0 (fun _ => true) true Tryd.f10.params.toList args.toList ds p := hA0
  rw [Tryd.params10] at hA hval hsz
  obtain ⟨v0, vs0, d0, ds0, p0, q0, hargs, rfl, rfl, h0, r0⟩ := trodAll_cons hA
  obtain ⟨rfl, rfl, rfl⟩ := trodAll_nil r0
  obtain rfl : args = #[v0] := by cases args; simp_all
  obtain ⟨rfl, rfl⟩ := trodVars_none hV
  have k0 := h0
  have lt0 : ∀ x ∈ p0, x.block < W.heap.size := by obtain ⟨m, hm⟩ := k0; exact DataW.trod_lt m _ _ _ hm
  obtain ⟨l0, hl0⟩ : ∃ l : List ByteArray, StrsAt W v0 l := by
    rcases open_strs46 (hval 0 56 v0 rfl rfl) h0 with ⟨rfl, _⟩ | ⟨elems, sp, l, rfl, hel, hl⟩
    · exact ⟨[], .inl ⟨rfl, _, _, rfl⟩⟩
    · have hw := sized_slice hsz (j := 0) (t := 56) (e := 9) rfl rfl Tryd.underlying56
      have hb : Tryd.prog.bytesOf 9 = 16 := by kernel_rfl
      have hre : reachBytes = 140737488351232 := rfl
      rw [hb, hre, hel] at hw
      exact ⟨l, hl (by omega)⟩
  rw [MakeChecks.laidMetH_plain _ _ _ (by kernel_rfl)] at hL
  clear hA0 hval0
  refine (law_shows v0 l0 W (tab46H hL) hl0).mono fun e W' ⟨he, bel⟩ => ?_
  subst he
  exact ⟨_, rfl, _, _, _, [], _, [], hW', trodAll_mk1 (shut_bool Tryd.underlying4 _), (trodAll_cons_mk (Below.trod laidOut46H (by kernel_rfl) (of_decide_eq_true (by kernel_rfl)) k0 bel lt0) trodAll_mk0), rfl, bel.frame _, fun h => by cases h⟩

theorem over46H : Rows.messageShowsRow.holds Tryd.pinned (OpenSpec.ofChange Rows.messageShowsSpec) :=
  OpenClaim.holds_of_wide 10 Tryd.f10 rfl rfl rfl rfl rfl rfl rfl ⟨rfl, rfl, rfl, rfl, rfl⟩ rfl rfl rfl rfl rfl (by kernel_rfl) Tryd.func10 (by kernel_rfl)
    (of_decide_eq_true (by kernel_rfl)) (by unfold Func.isWrapper; first | (rw [if_pos (by decide +kernel)]; kernel_rfl) | (rw [if_neg (by decide +kernel)]; exact ⟨rfl, rfl⟩))
    (fun os started H enc _ => lifted46H os started H enc)

theorem plain46H (f : FuncId) (fn : Func) (hf : Tryd.pinned.checked.prog.funcNamed Rows.messageShowsRow.func = some f) (hfn : Tryd.pinned.checked.prog.funcs[f]? = some fn) :
    true = Tryd.pinned.checked.prog.looks [] ∧ ∀ (j : Nat) t, fn.params[j]? = some t → Tryd.pinned.checked.prog.wantsStandIn t = false := by
  obtain rfl : f = 10 := Option.some.inj ((show Tryd.prog.funcNamed Rows.messageShowsRow.func = some 10 by kernel_rfl).symm.trans hf) |>.symm
  obtain rfl : fn = Tryd.f10 := (Option.some.inj (Tryd.func10.symm.trans hfn)).symm
  refine ⟨by kernel_rfl, fun j t ht => ?_⟩
  rw [Tryd.params10] at ht
  have hm : t ∈ [56] := by simpa using Array.mem_of_getElem? ht
  have hall : ([56].all fun u => !Tryd.prog.wantsStandIn u) = true := by kernel_rfl
  exact (show Tryd.prog.wantsStandIn t = false by simpa using List.all_eq_true.1 hall t hm)

theorem messageShows_holds : Rows.MessageShowsCardSaid :=
  Claim7.holds_tied_plain_at .later [] _ _ _ _ over46H (fun _ h => by cases h) (by kernel_rfl) (fun _ h => by cases h) messageShows_row_tie rfl ⟨rfl, rfl⟩ (by kernel_rfl) rfl plain46H (by kernel_rfl)
#print axioms messageShows_holds
end Go.Proofs.YtdklpmaeajpacaaDoor
