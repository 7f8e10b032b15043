/-
  The law DiscoveryAll returns true for every input, and its arguments read behind the call as before. No condition.
-/
import Derived.Test.YtiemdccjphdbmaaGreatLa
import Derived.Test.YtiemdccjphdbmaaGreatOpen4
import Derived.SizedLaws
namespace Go.Proofs.YtiemdccjphdbmaaGreat
open Go.ChangeShapes Go.WideShapes Go.ChangeAt Go.RowKit
open Go.ChangeMaps (open_string shut_string)
set_option linter.unusedVariables false

theorem own48A : ownKnob Tryz.prog.godebug = none := by kernel_rfl
theorem laidOut48A : laidOutB Tryz.prog = true := by kernel_rfl

set_option maxRecDepth 100000 in
theorem lifted48A (os : Os) (started : os.Started) (H : Type) (enc : TypeId × Value → H) :
    ReturnsInHanded {} Tryz.checked os 6 .any (Rows.discoveryAllSpec.pre6 enc Tryz.prog Tryz.f6 Rows.discoveryAllRow.domain false) (Rows.discoveryAllSpec.post enc Tryz.prog Tryz.f6 false true false false) := by
  refine returnsInHanded_of_change_sized (C := Tryz.checked) own48A started (by kernel_rfl) Tryz.func6
    (ChangeSpec.witness6 (enc := enc) (C := Tryz.checked) false ⟨#[], #[.slice none 0 0, .int .u64 0], []⟩ 8 (by kernel_rfl) (by kernel_rfl) (by kernel_rfl) (by kernel_rfl)) ?_
  intro W base args ds gs before hval0 hW hcnd hsz0 _
  have hsz : (DataW.weightsEach Tryz.prog (Tryz.f6.params.toList ++ Rows.discoveryAllSpec.plain.varTypes Tryz.prog) (ds ++ gs)).all (· ≤ reachBytes) = true := hsz0
  clear hsz0
  have hval : ∀ (j : Nat) t v, Tryz.f6.params[j]? = some t → args[j]? = some v → Value.okWide Tryz.prog W .any base t v := hval0
  have hW' := hW
  obtain ⟨p, q, hA0, hV, rfl, hfz, hnd⟩ := hW
  have hA : DataW.TrodAll enc Tryz.prog W 0 (fun _ => true) true Tryz.f6.params.toList args.toList ds p := hA0
  rw [Tryz.params6] at hA hval hsz
  obtain ⟨v0, vs0, d0, ds0, p0, q0, hargs, rfl, rfl, h0, r0⟩ := trodAll_cons hA
  obtain ⟨v1, vs1, d1, ds1, p1, q1, rfl, rfl, rfl, h1, r1⟩ := trodAll_cons r0
  obtain ⟨rfl, rfl, rfl⟩ := trodAll_nil r1
  obtain rfl : args = #[v0, v1] := by cases args; simp_all
  obtain ⟨rfl, rfl⟩ := trodVars_none hV
  have k0 := h0
  have lt0 : ∀ x ∈ p0, x.block < W.heap.size := by obtain ⟨m, hm⟩ := k0; exact DataW.trod_lt m _ _ _ hm
  have k1 := h1
  have lt1 : ∀ x ∈ p1, x.block < W.heap.size := by obtain ⟨m, hm⟩ := k1; exact DataW.trod_lt m _ _ _ hm
  obtain ⟨l0, hvl0, hrl0⟩ : ∃ l : List Dev, DevsAt W v0 l ∧ l.length * 56 ≤ 140737488351232 := by
    rcases open_devs (hval 0 22 v0 rfl rfl) h0 with ⟨rfl, _⟩ | ⟨elems, sp, l, rfl, hel, hl⟩
    · exact ⟨[], .inl ⟨rfl, _, _, rfl⟩, by decide⟩
    · have hw := sized_slice hsz (j := 0) (t := 22) (e := 66) rfl rfl Tryz.underlying22
      have hb : Tryz.prog.bytesOf 66 = 56 := by kernel_rfl
      have hre : reachBytes = 140737488351232 := rfl
      rw [hb, hre, hel] at hw
      have h1 : l.length * 56 ≤ 140737488351232 := by omega
      exact ⟨l, hl (by omega), h1⟩
  obtain ⟨a1, rfl, rfl, rfl, w1⟩ := open_int Tryz.underlying23 (hval 1 23 v1 rfl rfl) h1
  clear hA0 hval0
  refine (law_all v0 l0 a1 W hvl0 hrl0).mono fun e W' ⟨he, bel⟩ => ?_
  subst he
  exact ⟨_, rfl, _, _, _, [], _, [], hW', trodAll_mk1 (shut_bool Tryz.underlying4 _), (trodAll_cons_mk (Below.trod laidOut48A (by kernel_rfl) (of_decide_eq_true (by kernel_rfl)) k0 bel lt0) (trodAll_cons_mk (Below.trod laidOut48A (by kernel_rfl) (of_decide_eq_true (by kernel_rfl)) k1 bel lt1) trodAll_mk0)), rfl, bel.frame _, fun h => by cases h⟩

theorem over48A : Rows.discoveryAllRow.holds Tryz.pinned (OpenSpec.ofChange Rows.discoveryAllSpec) :=
  OpenClaim.holds_of_wide 6 Tryz.f6 rfl rfl rfl rfl rfl rfl rfl ⟨rfl, rfl, rfl, rfl, rfl⟩ rfl rfl rfl rfl rfl (by kernel_rfl) Tryz.func6 (by kernel_rfl)
    (of_decide_eq_true (by kernel_rfl)) (by unfold Func.isWrapper; first | (rw [if_pos (by decide +kernel)]; kernel_rfl) | (rw [if_neg (by decide +kernel)]; exact ⟨rfl, rfl⟩))
    (fun os started H enc _ => lifted48A os started H enc)

theorem discoveryAll_holds : Rows.DiscoveryAllSaid := over48A
#print axioms discoveryAll_holds
end Go.Proofs.YtiemdccjphdbmaaGreat
