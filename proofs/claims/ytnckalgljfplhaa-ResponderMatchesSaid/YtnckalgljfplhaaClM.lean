/-
  The law ResponderMatches returns true for every input, and its arguments read behind the call as before. No condition.
-/
import Derived.Test.YtnckalgljfplhaaLawM
import Derived.Test.YtnckalgljfplhaaOpen
namespace Go.Proofs.Ytnckalgljfplhaa
open Go.ChangeShapes Go.WideShapes Go.ChangeAt Go.RowKit
open Go.ChangeMaps (open_string shut_string)
set_option linter.unusedVariables false

theorem ownM : ownKnob Try.prog.godebug = none := by kernel_rfl
theorem laidOutM : laidOutB Try.prog = true := by kernel_rfl

set_option maxRecDepth 100000 in
theorem liftedM (os : Os) (started : os.Started) (H : Type) (enc : TypeId × Value → H) :
    ReturnsInHanded {} Try.checked os 7 .any (Rows.responderMatchesSpec.pre6 enc Try.prog Try.f7 Rows.responderMatchesRow.domain false) (Rows.responderMatchesSpec.post enc Try.prog Try.f7 false true false false) := by
  refine returnsInHanded_of_change (C := Try.checked) ownM started (by kernel_rfl) Try.func7
    (ChangeSpec.witness6 (enc := enc) (C := Try.checked) false ⟨#[], #[.agg #[.int .u64 0, .int .i64 0, .int .i64 0, .string ⟨#[]⟩, .int .i64 0, .bool false, .bool false], .agg #[.int .u64 0, .int .u64 0, .int .i64 0, .int .i64 0, .int .i64 0, .string ⟨#[]⟩]], []⟩ 8 (by kernel_rfl) (by kernel_rfl) (by kernel_rfl) (by kernel_rfl)) ?_
  intro W base args ds gs before hval0 hW hcnd _
  have hval : ∀ (j : Nat) t v, Try.f7.params[j]? = some t → args[j]? = some v → Value.okWide Try.prog W .any base t v := hval0
  have hW' := hW
  obtain ⟨p, q, hA0, hV, rfl, hfz, hnd⟩ := hW
  have hA : DataW.TrodAll enc Try.prog W 0 (fun _ => true) true Try.f7.params.toList args.toList ds p := hA0
  rw [Try.params7] at hA hval
  obtain ⟨v0, vs0, d0, ds0, p0, q0, hargs, rfl, rfl, h0, r0⟩ := trodAll_cons hA
  obtain ⟨v1, vs1, d1, ds1, p1, q1, rfl, rfl, rfl, h1, r1⟩ := trodAll_cons r0
  obtain ⟨rfl, rfl, rfl⟩ := trodAll_nil r1
  obtain rfl : args = #[v0, v1] := by cases args; simp_all
  obtain ⟨rfl, rfl⟩ := trodVars_none hV
  have k0 := h0
  have lt0 : ∀ x ∈ p0, x.block < W.heap.size := by obtain ⟨m, hm⟩ := k0; exact DataW.trod_lt m _ _ _ hm
  have k1 := h1
  have lt1 : ∀ x ∈ p1, x.block < W.heap.size := by obtain ⟨m, hm⟩ := k1; exact DataW.trod_lt m _ _ _ hm
  obtain ⟨a0_0, a0_1, a0_2, a0_3, a0_4, a0_5, a0_6, rfl, w0_0, w0_1, w0_2, w0_3, w0_4⟩ := open_dev (hval 0 24 v0 rfl rfl) h0
  obtain ⟨a1_0, a1_1, a1_2, a1_3, a1_4, a1_5, rfl, w1_0, w1_1, w1_2, w1_3, w1_4, w1_5⟩ := open_msg (hval 1 26 v1 rfl rfl) h1
  clear hA0 hval0
  refine (law_matches a0_0 a0_1 a0_2 a0_4 a1_0 a1_1 a1_2 a1_3 a1_4 a0_3 a1_5 a0_5 a0_6 W (by unfold maxLen at w0_3; omega) (by unfold maxLen at w1_5; omega)).mono fun e W' ⟨he, bel⟩ => ?_
  subst he
  exact ⟨_, rfl, _, _, _, [], _, [], hW', trodAll_mk1 (shut_bool Try.underlying4 _), (trodAll_cons_mk (Below.trod laidOutM (by kernel_rfl) (of_decide_eq_true (by kernel_rfl)) k0 bel lt0) (trodAll_cons_mk (Below.trod laidOutM (by kernel_rfl) (of_decide_eq_true (by kernel_rfl)) k1 bel lt1) trodAll_mk0)), rfl, bel.frame _, fun h => by cases h⟩

theorem overM : Rows.responderMatchesRow.holds Try.pinned (OpenSpec.ofChange Rows.responderMatchesSpec) :=
  OpenClaim.holds_of_wide 7 Try.f7 rfl rfl rfl rfl rfl rfl rfl ⟨rfl, rfl, rfl, rfl, rfl⟩ rfl rfl rfl rfl rfl (by kernel_rfl) Try.func7 (by kernel_rfl)
    (of_decide_eq_true (by kernel_rfl)) (by unfold Func.isWrapper; first | (rw [if_pos (by decide +kernel)]; kernel_rfl) | (rw [if_neg (by decide +kernel)]; exact ⟨rfl, rfl⟩))
    (fun os started H enc _ => liftedM os started H enc)

theorem responderMatches_holds : Rows.ResponderMatchesSaid := overM
#print axioms responderMatches_holds
end Go.Proofs.Ytnckalgljfplhaa
