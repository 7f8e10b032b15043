/-
  The walk of the law ManagerChecks.
-/
import Derived.Test.YtpjmhhfpjhmiiaaGreatQf
import Derived.Test.YtpjmhhfpjhmiiaaGreatQi
import Derived.Test.YtpjmhhfpjhmiiaaGreatQh
namespace Go.Proofs.YtpjmhhfpjhmiiaaGreat
open Go.RowKit Go.Shelf

theorem few_small {y : Wre} (h : fewW y = true) : y.devs.length ≤ 128 ∧ (∀ d ∈ y.devs, d.lb.size ≤ 100) ∧ (y.faults.length ≤ 100 ∨ 4096 < y.faults.length) ∧ y.late.length ≤ 100 ∧ ∀ s ∈ y.late, s.size ≤ 300 ∨ 4096 < s.size := by
  unfold fewW fewAll at h
  simp only [Bool.and_eq_true, Bool.or_eq_true, Bool.not_eq_true', decide_eq_true_eq, List.all_eq_true] at h
  obtain ⟨h1, ⟨⟨h2, h3⟩, h4⟩, h5⟩ := h
  refine ⟨h2, h3, h4, h5, fun s hs => ?_⟩
  rw [List.take_of_length_le (by omega)] at h1
  have := List.any_eq_false.1 h1 s hs
  unfold midText at this
  simp at this
  omega
end Go.Proofs.YtpjmhhfpjhmiiaaGreat
