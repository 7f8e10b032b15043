/-
  Send.
-/
import Derived.Test.YtpjmhhfpjhmiiaaGreatQd
namespace Go.Proofs.YtpjmhhfpjhmiiaaGreat
open Go.RowKit Go.Shelf

/-- A change of a small block leaves messages alone. -/
theorem msgs_small {w w' : World} {s T : Nat} {cs : Array Value} {v : Value} {l : List Msg} (h : MsgsAt w v l) (hr : RowAt w s T cs) (hz : cs.size < 6) (hu : Upd s w w') : MsgsAt w' v l :=
  SeqAt.same h hu.size fun b off cap e h0 hc => by
    have q5 : w.cell? ⟨b, off + 5, none⟩ = some (.string (l[0]'h0).dat) := by
      rw [hc 5 (by omega)]
      simp [msgsC, List.getElem?_eq_getElem h0, msgA]
    have hlt : b < w.heap.size := by
      by_cases hlt : b < w.heap.size
      · exact hlt
      · unfold World.cell? at q5
        rw [show w.heap[(⟨b, off + 5, none⟩ : Addr).block]? = none from Array.getElem?_eq_none (by show w.heap.size ≤ b; omega)] at q5
        cases q5
    refine hu.block b hlt (fun e => ?_)
    cases e
    rw [cell_fact hr, Array.getElem?_eq_none (by omega)] at q5
    cases q5
theorem MsgsAt.drew {w : World} {v : Value} {l : List Msg} (h : MsgsAt w v l) : MsgsAt w.drew v l := h
end Go.Proofs.YtpjmhhfpjhmiiaaGreat
