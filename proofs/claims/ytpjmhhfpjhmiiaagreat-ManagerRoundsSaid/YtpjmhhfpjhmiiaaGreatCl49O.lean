/-
  The law ManagerRounds returns true for every input, and its arguments read behind the call as before. No condition.
-/
import Derived.Test.YtpjmhhfpjhmiiaaGreatUb
import Derived.Test.YtpjmhhfpjhmiiaaGreatOpt
import Derived.SizedLaws
namespace Go.Proofs.YtpjmhhfpjhmiiaaGreat
open Go.ChangeShapes Go.WideShapes Go.ChangeAt Go.RowKit
open Go.ChangeMaps (open_string shut_string)
set_option linter.unusedVariables false

theorem own49O : ownKnob Tryz.prog.godebug = none := by kernel_rfl
theorem laidOut49O : laidOutB Tryz.prog = true := by kernel_rfl

set_option maxRecDepth 100000 in
theorem lifted49O (os : Os) (started : os.Started) (H : Type) (enc : TypeId × Value → H) :
    ReturnsInHanded {} Tryz.checked os 10 .any (Rows.managerRoundsSpec.pre6 enc Tryz.prog Tryz.f10 Rows.managerRoundsRow.domain false) (Rows.managerRoundsSpec.post enc Tryz.prog Tryz.f10 false true false false) := by
  refine returnsInHanded_of_change_sized (C := Tryz.checked) own49O started (by kernel_rfl) Tryz.func10
    (ChangeSpec.witness6 (enc := enc) (C := Tryz.checked) false ⟨#[], #[.agg #[.int .u64 0, .int .i64 0, .int .i64 0, .slice none 0 0, .slice none 0 0, .slice none 0 0], .slice none 0 0, .agg #[.int .u64 0, .int .i64 0, .int .i64 0, .string ⟨#[]⟩]], []⟩ 8 (by kernel_rfl) (by kernel_rfl) (by kernel_rfl) (by kernel_rfl)) ?_
  intro W base args ds gs before hval0 hW hcnd hsz0 _
  have hsz : (DataW.weightsEach Tryz.prog (Tryz.f10.params.toList ++ Rows.managerRoundsSpec.plain.varTypes Tryz.prog) (ds ++ gs)).all (· ≤ reachBytes) = true := hsz0
  clear hsz0
  have hval : ∀ (j : Nat) t v, Tryz.f10.params[j]? = some t → args[j]? = some v → Value.okWide Tryz.prog W .any base t v := hval0
  have hW' := hW
  obtain ⟨p, q, hA0, hV, rfl, hfz, hnd⟩ := hW
  have hA : DataW.TrodAll enc Tryz.prog W 0 (fun _ => true) true Tryz.f10.params.toList args.toList ds p := hA0
  rw [Tryz.params10] at hA hval hsz
  obtain ⟨v0, vs0, d0, ds0, p0, q0, hargs, rfl, rfl, h0, r0⟩ := trodAll_cons hA
  obtain ⟨v1, vs1, d1, ds1, p1, q1, rfl, rfl, rfl, h1, r1⟩ := trodAll_cons r0
  obtain ⟨v2, vs2, d2, ds2, p2, q2, rfl, rfl, rfl, h2, r2⟩ := trodAll_cons r1
  obtain ⟨rfl, rfl, rfl⟩ := trodAll_nil r2
  obtain rfl : args = #[v0, v1, v2] := by cases args; simp_all
  obtain ⟨rfl, rfl⟩ := trodVars_none hV
  have k0 := h0
  have lt0 : ∀ x ∈ p0, x.block < W.heap.size := by obtain ⟨m, hm⟩ := k0; exact DataW.trod_lt m _ _ _ hm
  have k1 := h1
  have lt1 : ∀ x ∈ p1, x.block < W.heap.size := by obtain ⟨m, hm⟩ := k1; exact DataW.trod_lt m _ _ _ hm
  have k2 := h2
  have lt2 : ∀ x ∈ p2, x.block < W.heap.size := by obtain ⟨m, hm⟩ := k2; exact DataW.trod_lt m _ _ _ hm
  obtain ⟨x0, da0, fa0, la0, dn0, dc0, fn0, fc0, ln0, lc0, y0, rfl, hw0, hr0, hf0, hl0, hn0⟩ := open_worldN (hval 0 31 v0 rfl rfl) h0 (fun k hk => by simpa using List.all_eq_true.1 hsz _ (DataW.weights_mem_each (j := 0) rfl rfl k hk))
  obtain ⟨l1, hvl1, hrl1⟩ : ∃ l : List Int, IdsAt W v1 l ∧ l.length * 8 ≤ 140737488351232 := by
    rcases open_ids (hval 1 84 v1 rfl rfl) h1 with ⟨rfl, _⟩ | ⟨elems, sp, l, rfl, hel, hl⟩
    · exact ⟨[], .inl ⟨rfl, _, _, rfl⟩, by decide⟩
    · have hw := sized_slice hsz (j := 1) (t := 84) (e := 22) rfl rfl Tryz.underlying84
      have hb : Tryz.prog.bytesOf 22 = 8 := by kernel_rfl
      have hre : reachBytes = 140737488351232 := rfl
      rw [hb, hre, hel] at hw
      have h1 : l.length * 8 ≤ 140737488351232 := by omega
      exact ⟨l, hl (by omega), h1⟩
  have hcap1 := ids_cap (hval 1 84 v1 rfl rfl) h1
  obtain ⟨a2_0, a2_1, a2_2, a2_3, rfl, w2⟩ := open_req (hval 2 50 v2 rfl rfl) h2
  clear hA0 hval0
  refine (law_roundsV x0 da0 fa0 la0 dn0 dc0 fn0 fc0 ln0 lc0 y0 a2_0 a2_1 a2_2 a2_3 W hw0 hr0 hn0 (fun a n c e => by cases e; exact hf0) l1 v1 hvl1 hrl1).mono fun e W' ⟨he, bel⟩ => ?_
  subst he
  exact ⟨_, rfl, _, _, _, [], _, [], hW', trodAll_mk1 (shut_bool Tryz.underlying4 _), (trodAll_cons_mk (Below.trod laidOut49O (by kernel_rfl) (of_decide_eq_true (by kernel_rfl)) k0 bel lt0) (trodAll_cons_mk (Below.trod laidOut49O (by kernel_rfl) (of_decide_eq_true (by kernel_rfl)) k1 bel lt1) (trodAll_cons_mk (Below.trod laidOut49O (by kernel_rfl) (of_decide_eq_true (by kernel_rfl)) k2 bel lt2) trodAll_mk0))), rfl, bel.frame _, fun h => by cases h⟩

theorem over49O : Rows.managerRoundsRow.holds Tryz.pinned (OpenSpec.ofChange Rows.managerRoundsSpec) :=
  OpenClaim.holds_of_wide 10 Tryz.f10 rfl rfl rfl rfl rfl rfl rfl ⟨rfl, rfl, rfl, rfl, rfl⟩ rfl rfl rfl rfl rfl (by kernel_rfl) Tryz.func10 (by kernel_rfl)
    (of_decide_eq_true (by kernel_rfl)) (by unfold Func.isWrapper; first | (rw [if_pos (by decide +kernel)]; kernel_rfl) | (rw [if_neg (by decide +kernel)]; exact ⟨rfl, rfl⟩))
    (fun os started H enc _ => lifted49O os started H enc)

theorem managerRounds_holds : Rows.ManagerRoundsSaid := over49O
#print axioms managerRounds_holds
end Go.Proofs.YtpjmhhfpjhmiiaaGreat
