/-
  The walk of the law ManagerChecks.
-/
import Derived.Test.YtpkhcehddfmhpaaGreatQf
import Derived.Test.YtpkhcehddfmhpaaGreatQi
import Derived.Test.YtpkhcehddfmhpaaGreatQh
namespace Go.Proofs.YtpkhcehddfmhpaaGreat
open Go.RowKit Go.Shelf

theorem few_small {y : Wre} (h : fewW y = true) : y.devs.length ≤ 128 ∧ (∀ d ∈ y.devs, d.lb.size ≤ 100) ∧ (y.faults.length ≤ 100 ∨ 4096 < y.faults.length) ∧ y.late.length ≤ 100 ∧ ∀ s ∈ y.late, s.size ≤ 300 ∨ 4096 < s.size := by
  unfold fewW fewAll at h
  simp only [Bool.and_eq_true, Bool.or_eq_true, Bool.not_eq_true', decide_eq_true_eq, List.all_eq_true] at h
  obtain ⟨h1, ⟨⟨h2, h3⟩, h4⟩, h5⟩ := h
  refine ⟨h2, h3, h4, h5, fun s hs => ?_⟩
  rw [List.take_of_length_le (by omega)] at h1
  have := List.any_eq_false.1 h1 s hs
  unfold midText at this
  simp at this
  omega
/-- A contract of a call, behind all that leaves old memory alone. -/
theorem lift_below {P : Program} {f : FuncId} {args : Array Value} {V W : World} {Q : Ending → World → Prop} (h : Below V.heap.size V W) (c : Calls P f args W fun e w' => Q e w' ∧ Below W.heap.size W w') : Calls P f args W fun e w' => Q e w' ∧ Below V.heap.size V w' :=
  c.mono fun _ _ ⟨a, b⟩ => ⟨a, below_run h b⟩

end Go.Proofs.YtpkhcehddfmhpaaGreat
