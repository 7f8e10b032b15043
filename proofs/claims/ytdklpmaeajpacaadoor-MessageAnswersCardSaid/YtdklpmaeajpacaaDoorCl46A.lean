/-
  The law MessageAnswers returns true for every input, and its arguments read behind the call as before; the library's listed variables hold what the program's text lays, as the card ties it. No other condition.
-/
import Derived.Test.YtdklpmaeajpacaaDoorLwA
import Derived.Test.YtdklpmaeajpacaaDoorOpn
import Derived.Test.YtdklpmaeajpacaaDoorOpns
import Derived.Test.YtdklpmaeajpacaaDoorCards
import Derived.Test.YtdklpmaeajpacaaDoorTie
import Derived.Lay
import Derived.Lib.LaidTab
import Derived.SevenTiedAt
import Derived.LaidOnce
import Derived.Stop.LaidErr
namespace Go.Proofs.YtdklpmaeajpacaaDoor
open Go.ChangeShapes Go.WideShapes Go.ChangeAt Go.RowKit
open Go.ChangeMaps (open_string shut_string)
set_option linter.unusedVariables false

theorem own46A : ownKnob Tryd.prog.godebug = none := by kernel_rfl
theorem laidOut46A : laidOutB Tryd.prog = true := by kernel_rfl

theorem tab46A {W : World} (h : laidMet Tryd.prog Rows.messageAnswersRow.laid W) : Tab W :=
  (Lib.tabIs_of_head (g := 6) (n := 64) (t := 155) (e := 5) (by kernel_rfl) (by kernel_rfl) Tryd.underlying155 Tryd.underlying5 (by kernel_rfl) (by kernel_rfl) (laidMet.tail h) : Lib.TabIs Tryd.prog W "math/bits.deBruijn64tab" .u8 [0, 1, 56, 2, 57, 49, 28, 3, 61, 58, 42, 50, 38, 29, 17, 4, 62, 47, 59, 36, 45, 43, 51, 22, 53, 39, 33, 30, 24, 18, 12, 5, 63, 55, 48, 27, 60, 41, 37, 16, 46, 35, 44, 21, 52, 32, 23, 11, 54, 26, 40, 15, 34, 20, 31, 10, 25, 14, 19, 9, 13, 8, 7, 6]).cell (g := 6) (by kernel_rfl) 15 (by decide)

set_option maxRecDepth 100000 in
theorem lifted46A (os : Os) (started : os.Started) (H : Type) (enc : TypeId × Value → H) :
    ReturnsInHanded {} Tryd.checked os 12 .any (fun w args => (Rows.messageAnswersSpec.pre enc Tryd.prog Tryd.f12 Rows.messageAnswersRow.domain false w args ∧ laidMetH Tryd.prog Rows.messageAnswersRow.laid w) ∧ sizedMet enc Tryd.prog Tryd.f12 (OpenSpec.ofChange Rows.messageAnswersSpec) false w args)
      (Rows.messageAnswersSpec.post enc Tryd.prog Tryd.f12 false true false false) := by
  refine returnsInHanded_of_change_and (C := Tryd.checked) (X := fun w _ => laidMetH Tryd.prog Rows.messageAnswersRow.laid w) (fun _ _ _ hh h => h.of_heap hh) own46A started (by kernel_rfl) Tryd.func12
    (ChangeSpec.witness_shaped (enc := enc) (C := Tryd.checked) (os := os) (X := fun w _ => laidMetH Tryd.prog Rows.messageAnswersRow.laid w) false (World.laidAll Tryd.prog os Rows.messageAnswersRow.laid) #[.agg #[.int .u64 0, .int .u64 0, .int .i64 0, .int .i64 0, .int .i64 0, .string ⟨#[]⟩], .agg #[.int .u64 0, .string ⟨#[]⟩, .int .i64 0]] 8 (World.laidAll_os _ _ _)
      (World.shaped_of_ZipB (by kernel_rfl) (by kernel_rfl)) (by kernel_rfl) (by kernel_rfl) (by kernel_rfl)
      (by rw [MakeChecks.laidMetH_plain _ _ _ (by kernel_rfl)]; exact laidMet_laidAll _ (by kernel_rfl) (by kernel_rfl))) ?_
  intro W base args ds gs before hval0 hW _ hsz0 hL0 _
  have hval : ∀ (j : Nat) t v, Tryd.f12.params[j]? = some t → args[j]? = some v → Value.okWide Tryd.prog W .any base t v := hval0
  have hsz : (DataW.weightsEach Tryd.prog (Tryd.f12.params.toList ++ Rows.messageAnswersSpec.plain.varTypes Tryd.prog) (ds ++ gs)).all (· ≤ reachBytes) = true := hsz0
  have hL : laidMetH Tryd.prog Rows.messageAnswersRow.laid W := hL0
  clear hsz0 hL0
  have hW' := hW
  obtain ⟨p, q, hA0, hV, rfl, hfz, hnd⟩ := hW
  have hA : DataW.TrodAll enc Tryd.prog W 0 (fun _ => true) true Tryd.f12.params.toList args.toList ds p := hA0
  rw [Tryd.params12] at hA hval hsz
  obtain ⟨v0, vs0, d0, ds0, p0, q0, hargs, rfl, rfl, h0, r0⟩ := trodAll_cons hA
  obtain ⟨v1, vs1, d1, ds1, p1, q1, rfl, rfl, rfl, h1, r1⟩ := trodAll_cons r0
  obtain ⟨rfl, rfl, rfl⟩ := trodAll_nil r1
  obtain rfl : args = #[v0, v1] := by cases args; simp_all
  obtain ⟨rfl, rfl⟩ := trodVars_none hV
  have k0 := h0
  have lt0 : ∀ x ∈ p0, x.block < W.heap.size := by obtain ⟨m, hm⟩ := k0; exact DataW.trod_lt m _ _ _ hm
  have k1 := h1
  have lt1 : ∀ x ∈ p1, x.block < W.heap.size := by obtain ⟨m, hm⟩ := k1; exact DataW.trod_lt m _ _ _ hm
  obtain ⟨a0_0, a0_1, a0_2, a0_3, a0_4, a0_5, rfl, w0_0, w0_1, w0_2, w0_3, w0_4, w0_5⟩ := open_msg (hval 0 24 v0 rfl rfl) h0
  obtain ⟨a1_0, a1_1, a1_2, rfl, w1_0, w1_1, w1_2⟩ := open_reply (hval 1 67 v1 rfl rfl) h1
  rw [MakeChecks.laidMetH_plain _ _ _ (by kernel_rfl)] at hL
  clear hA0 hval0
  refine (law_answers a0_0 a0_1 a0_2 a0_3 a0_4 a1_0 a1_2 a0_5 a1_1 W (tab46A hL)).mono fun e W' ⟨he, bel⟩ => ?_
  subst he
  exact ⟨_, rfl, _, _, _, [], _, [], hW', trodAll_mk1 (shut_bool Tryd.underlying4 _), (trodAll_cons_mk (Below.trod laidOut46A (by kernel_rfl) (of_decide_eq_true (by kernel_rfl)) k0 bel lt0) (trodAll_cons_mk (Below.trod laidOut46A (by kernel_rfl) (of_decide_eq_true (by kernel_rfl)) k1 bel lt1) trodAll_mk0)), rfl, bel.frame _, fun h => by cases h⟩

theorem over46A : Rows.messageAnswersRow.holds Tryd.pinned (OpenSpec.ofChange Rows.messageAnswersSpec) :=
  OpenClaim.holds_of_wide 12 Tryd.f12 rfl rfl rfl rfl rfl rfl rfl ⟨rfl, rfl, rfl, rfl, rfl⟩ rfl rfl rfl rfl rfl (by kernel_rfl) Tryd.func12 (by kernel_rfl)
    (of_decide_eq_true (by kernel_rfl)) (by unfold Func.isWrapper; first | (rw [if_pos (by decide +kernel)]; kernel_rfl) | (rw [if_neg (by decide +kernel)]; exact ⟨rfl, rfl⟩))
    (fun os started H enc _ => lifted46A os started H enc)

theorem plain46A (f : FuncId) (fn : Func) (hf : Tryd.pinned.checked.prog.funcNamed Rows.messageAnswersRow.func = some f) (hfn : Tryd.pinned.checked.prog.funcs[f]? = some fn) :
    true = Tryd.pinned.checked.prog.looks [] ∧ ∀ (j : Nat) t, fn.params[j]? = some t → Tryd.pinned.checked.prog.wantsStandIn t = false := by
  obtain rfl : f = 12 := Option.some.inj ((show Tryd.prog.funcNamed Rows.messageAnswersRow.func = some 12 by kernel_rfl).symm.trans hf) |>.symm
  obtain rfl : fn = Tryd.f12 := (Option.some.inj (Tryd.func12.symm.trans hfn)).symm
  refine ⟨by kernel_rfl, fun j t ht => ?_⟩
  rw [Tryd.params12] at ht
  have hm : t ∈ [24, 67] := by simpa using Array.mem_of_getElem? ht
  have hall : ([24, 67].all fun u => !Tryd.prog.wantsStandIn u) = true := by kernel_rfl
  exact (show Tryd.prog.wantsStandIn t = false by simpa using List.all_eq_true.1 hall t hm)

theorem messageAnswers_holds : Rows.MessageAnswersCardSaid :=
  Claim7.holds_tied_plain_at .later [] _ _ _ _ over46A (fun _ h => by cases h) (by kernel_rfl) (fun _ h => by cases h) messageAnswers_row_tie rfl ⟨rfl, rfl⟩ (by kernel_rfl) rfl plain46A (by kernel_rfl)
#print axioms messageAnswers_holds
end Go.Proofs.YtdklpmaeajpacaaDoor
