/-
  The law TopRangesAlgebra returns true for every input, and its arguments read behind the call as before; the library's listed variables hold what the program's text lays, as the card ties it. No other condition.
-/
import Derived.Test.YtndkpdiacabjgaaGreatDoorGr
import Derived.Test.YtndkpdiacabjgaaGreatDoorOpr
import Derived.Test.YtndkpdiacabjgaaGreatDoorOpnP
import Derived.Test.YtndkpdiacabjgaaGreatDoorCards
import Derived.Test.YtndkpdiacabjgaaGreatDoorTie
import Derived.Lay
import Derived.Lib.LaidTab
import Derived.SevenTiedAt
import Derived.LaidOnce
import Derived.SizedLaws
import Derived.Stop.LaidErr
namespace Go.Proofs.YtndkpdiacabjgaaGreatDoor
open Go.ChangeShapes Go.WideShapes Go.ChangeAt Go.RowKit
open Go.ChangeMaps (open_string shut_string)
set_option linter.unusedVariables false

theorem own3G : ownKnob Tryz.prog.godebug = none := by kernel_rfl
theorem laidOut3G : laidOutB Tryz.prog = true := by kernel_rfl

theorem pow10_list : Lib.pow10Tab = [1, 10, 100, 1000, 10000, 100000, 1000000, 10000000, 100000000, 1000000000, 10000000000, 100000000000, 1000000000000, 10000000000000, 100000000000000, 1000000000000000, 10000000000000000, 100000000000000000, 1000000000000000000, 10000000000000000000] := by decide
theorem tab3G {W : World} (h : laidMet Tryz.prog Rows.topRangesAlgebraRow.laid W) : Pow W := by
  unfold Pow
  rw [pow10_list]
  exact (Lib.tabIs_of_head (g := 3) (n := 20) (t := 144) (e := 124) (by kernel_rfl) (by kernel_rfl) Tryz.underlying144 Tryz.underlying124 (by kernel_rfl) (by kernel_rfl) (laidMet.tail (laidMet.tail h)) : Lib.TabIs Tryz.prog W "internal/strconv.uint64pow10" .u64 [1, 10, 100, 1000, 10000, 100000, 1000000, 10000000, 100000000, 1000000000, 10000000000, 100000000000, 1000000000000, 10000000000000, 100000000000000, 1000000000000000, 10000000000000000, 100000000000000000, 1000000000000000000, 10000000000000000000])

set_option maxRecDepth 100000 in
theorem lifted3G (os : Os) (started : os.Started) (H : Type) (enc : TypeId × Value → H) :
    ReturnsInHanded {} Tryz.checked os 5 .any (fun w args => (Rows.topRangesAlgebraSpec.pre enc Tryz.prog Tryz.f5 Rows.topRangesAlgebraRow.domain false w args ∧ laidMetH Tryz.prog Rows.topRangesAlgebraRow.laid w) ∧ sizedMet enc Tryz.prog Tryz.f5 (OpenSpec.ofChange Rows.topRangesAlgebraSpec) false w args)
      (Rows.topRangesAlgebraSpec.post enc Tryz.prog Tryz.f5 false true false false) := by
  refine returnsInHanded_of_change_and (C := Tryz.checked) (X := fun w _ => laidMetH Tryz.prog Rows.topRangesAlgebraRow.laid w) (fun _ _ _ hh h => h.of_heap hh) own3G started (by kernel_rfl) Tryz.func5
    (ChangeSpec.witness_shaped (enc := enc) (C := Tryz.checked) (os := os) (X := fun w _ => laidMetH Tryz.prog Rows.topRangesAlgebraRow.laid w) false (World.laidAll Tryz.prog os Rows.topRangesAlgebraRow.laid) #[.slice none 0 0, .slice none 0 0, .slice none 0 0] 8 (World.laidAll_os _ _ _)
      (World.shaped_of_ZipB (by kernel_rfl) (by kernel_rfl)) (by kernel_rfl) (by kernel_rfl) (by kernel_rfl)
      (by rw [MakeChecks.laidMetH_plain _ _ _ (by kernel_rfl)]; exact laidMet_laidAll _ (by kernel_rfl) (by kernel_rfl))) ?_
  intro W base args ds gs before hval0 hW _ hsz0 hL0 _
  have hval : ∀ (j : Nat) t v, Tryz.f5.params[j]? = some t → args[j]? = some v → Value.okWide Tryz.prog W .any base t v := hval0
  have hsz : (DataW.weightsEach Tryz.prog (Tryz.f5.params.toList ++ Rows.topRangesAlgebraSpec.plain.varTypes Tryz.prog) (ds ++ gs)).all (· ≤ reachBytes) = true := hsz0
  have hL : laidMetH Tryz.prog Rows.topRangesAlgebraRow.laid W := hL0
  clear hsz0 hL0
  have hW' := hW
  obtain ⟨p, q, hA0, hV, rfl, hfz, hnd⟩ := hW
  have hA : DataW.TrodAll enc Tryz.prog W 0 (fun _ => true) true Tryz.f5.params.toList args.toList ds p := hA0
  rw [Tryz.params5] at hA hval hsz
  obtain ⟨v0, vs0, d0, ds0, p0, q0, hargs, rfl, rfl, h0, r0⟩ := trodAll_cons hA
  obtain ⟨v1, vs1, d1, ds1, p1, q1, rfl, rfl, rfl, h1, r1⟩ := trodAll_cons r0
  obtain ⟨v2, vs2, d2, ds2, p2, q2, rfl, rfl, rfl, h2, r2⟩ := trodAll_cons r1
  obtain ⟨rfl, rfl, rfl⟩ := trodAll_nil r2
  obtain rfl : args = #[v0, v1, v2] := by cases args; simp_all
  obtain ⟨rfl, rfl⟩ := trodVars_none hV
  have k0 := h0
  have lt0 : ∀ x ∈ p0, x.block < W.heap.size := by obtain ⟨m, hm⟩ := k0; exact DataW.trod_lt m _ _ _ hm
  have k1 := h1
  have lt1 : ∀ x ∈ p1, x.block < W.heap.size := by obtain ⟨m, hm⟩ := k1; exact DataW.trod_lt m _ _ _ hm
  have k2 := h2
  have lt2 : ∀ x ∈ p2, x.block < W.heap.size := by obtain ⟨m, hm⟩ := k2; exact DataW.trod_lt m _ _ _ hm
  obtain ⟨l0, hvl0, hrl0⟩ : ∃ l : List (Int × Int), RngsAt W v0 l ∧ l.length * 16 ≤ 140737488351232 := by
    rcases open_rngs (hval 0 33 v0 rfl rfl) h0 with ⟨rfl, _⟩ | ⟨elems, sp, l, rfl, hel, hl⟩
    · exact ⟨[], .inl ⟨rfl, _, _, rfl⟩, by decide⟩
    · have hw := sized_slice hsz (j := 0) (t := 33) (e := 42) rfl rfl Tryz.underlying33
      have hb : Tryz.prog.bytesOf 42 = 16 := by kernel_rfl
      have hre : reachBytes = 140737488351232 := rfl
      rw [hb, hre, hel] at hw
      have h1 : l.length * 16 ≤ 140737488351232 := by omega
      exact ⟨l, hl (by omega), h1⟩
  obtain ⟨l1, hvl1, hrl1⟩ : ∃ l : List (Int × Int), RngsAt W v1 l ∧ l.length * 16 ≤ 140737488351232 := by
    rcases open_rngs (hval 1 33 v1 rfl rfl) h1 with ⟨rfl, _⟩ | ⟨elems, sp, l, rfl, hel, hl⟩
    · exact ⟨[], .inl ⟨rfl, _, _, rfl⟩, by decide⟩
    · have hw := sized_slice hsz (j := 1) (t := 33) (e := 42) rfl rfl Tryz.underlying33
      have hb : Tryz.prog.bytesOf 42 = 16 := by kernel_rfl
      have hre : reachBytes = 140737488351232 := rfl
      rw [hb, hre, hel] at hw
      have h1 : l.length * 16 ≤ 140737488351232 := by omega
      exact ⟨l, hl (by omega), h1⟩
  obtain ⟨l2, hvl2, hrl2⟩ : ∃ l : List (Int × Int), RngsAt W v2 l ∧ l.length * 16 ≤ 140737488351232 := by
    rcases open_rngs (hval 2 33 v2 rfl rfl) h2 with ⟨rfl, _⟩ | ⟨elems, sp, l, rfl, hel, hl⟩
    · exact ⟨[], .inl ⟨rfl, _, _, rfl⟩, by decide⟩
    · have hw := sized_slice hsz (j := 2) (t := 33) (e := 42) rfl rfl Tryz.underlying33
      have hb : Tryz.prog.bytesOf 42 = 16 := by kernel_rfl
      have hre : reachBytes = 140737488351232 := rfl
      rw [hb, hre, hel] at hw
      have h1 : l.length * 16 ≤ 140737488351232 := by omega
      exact ⟨l, hl (by omega), h1⟩
  rw [MakeChecks.laidMetH_plain _ _ _ (by kernel_rfl)] at hL
  clear hA0 hval0
  refine (law_algebra l0 l1 l2 v0 v1 v2 W hvl0 hvl1 hvl2 hrl0 hrl1 hrl2 (tab3G hL)).mono fun e W' ⟨he, bel⟩ => ?_
  subst he
  exact ⟨_, rfl, _, _, _, [], _, [], hW', trodAll_mk1 (shut_bool Tryz.underlying4 _), (trodAll_cons_mk (Below.trod laidOut3G (by kernel_rfl) (of_decide_eq_true (by kernel_rfl)) k0 bel lt0) (trodAll_cons_mk (Below.trod laidOut3G (by kernel_rfl) (of_decide_eq_true (by kernel_rfl)) k1 bel lt1) (trodAll_cons_mk (Below.trod laidOut3G (by kernel_rfl) (of_decide_eq_true (by kernel_rfl)) k2 bel lt2) trodAll_mk0))), rfl, bel.frame _, fun h => by cases h⟩

theorem over3G : Rows.topRangesAlgebraRow.holds Tryz.pinned (OpenSpec.ofChange Rows.topRangesAlgebraSpec) :=
  OpenClaim.holds_of_wide 5 Tryz.f5 rfl rfl rfl rfl rfl rfl rfl ⟨rfl, rfl, rfl, rfl, rfl⟩ rfl rfl rfl rfl rfl (by kernel_rfl) Tryz.func5 (by kernel_rfl)
    (of_decide_eq_true (by kernel_rfl)) (by unfold Func.isWrapper; first | (rw [if_pos (by decide +kernel)]; kernel_rfl) | (rw [if_neg (by decide +kernel)]; exact ⟨rfl, rfl⟩))
    (fun os started H enc _ => lifted3G os started H enc)

theorem plain3G (f : FuncId) (fn : Func) (hf : Tryz.pinned.checked.prog.funcNamed Rows.topRangesAlgebraRow.func = some f) (hfn : Tryz.pinned.checked.prog.funcs[f]? = some fn) :
    true = Tryz.pinned.checked.prog.looks [] ∧ ∀ (j : Nat) t, fn.params[j]? = some t → Tryz.pinned.checked.prog.wantsStandIn t = false := by
  obtain rfl : f = 5 := Option.some.inj ((show Tryz.prog.funcNamed Rows.topRangesAlgebraRow.func = some 5 by kernel_rfl).symm.trans hf) |>.symm
  obtain rfl : fn = Tryz.f5 := (Option.some.inj (Tryz.func5.symm.trans hfn)).symm
  refine ⟨by kernel_rfl, fun j t ht => ?_⟩
  rw [Tryz.params5] at ht
  have hm : t ∈ [33, 33, 33] := by simpa using Array.mem_of_getElem? ht
  have hall : ([33, 33, 33].all fun u => !Tryz.prog.wantsStandIn u) = true := by kernel_rfl
  exact (show Tryz.prog.wantsStandIn t = false by simpa using List.all_eq_true.1 hall t hm)

theorem topRangesAlgebra_holds : Rows.TopRangesAlgebraCardSaid :=
  Claim7.holds_tied_plain_at .later [] _ _ _ _ over3G (fun _ h => by cases h) (by kernel_rfl) (fun _ h => by cases h) topRangesAlgebra_row_tie rfl ⟨rfl, rfl⟩ (by kernel_rfl) rfl plain3G (by kernel_rfl)
#print axioms topRangesAlgebra_holds
end Go.Proofs.YtndkpdiacabjgaaGreatDoor
