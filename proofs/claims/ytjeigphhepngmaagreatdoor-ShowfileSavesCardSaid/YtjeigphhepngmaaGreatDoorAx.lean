/- -/
import Derived.Test.YtjeigphhepngmaaGreatDoorJa
namespace Go.Proofs.YtjeigphhepngmaaGreatDoor
set_option maxHeartbeats 8000000
set_option maxRecDepth 100000
theorem zj1 {α : Type} {f : List α → α → Int} {l : List α} (h : allB f l = 0) : ∀ (k : Nat) (d : α), l[k]? = some d → f (l.take k) d = 0 := by
 have H : ∀ k, k ≤ l.length → LoopB f l k := by
  intro k
  induction k with
  | zero => exact fun _ => zam f l
  | succ k ih =>
    intro hk
    have hL := ih (by omega)
    obtain ⟨d, hd⟩ : ∃ d, l[k]? = some d := ⟨_, List.getElem?_eq_getElem (by omega)⟩
    by_cases h0 : f (l.take k) d = 0
    · exact zah hL hd h0
    exact absurd h (by rw [zad hL hd rfl h0]; exact h0)
 intro k d hd
 have hk := (List.getElem?_eq_some_iff.1 hd).1
 by_cases h0 : f (l.take k) d = 0
 · exact h0
 exact absurd h (by rw [zad (H k (by omega)) hd rfl h0]; exact h0)
end Go.Proofs.YtjeigphhepngmaaGreatDoor
