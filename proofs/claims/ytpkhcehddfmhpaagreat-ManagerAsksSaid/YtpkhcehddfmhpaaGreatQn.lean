/-
  Send.
-/
import Derived.Test.YtpkhcehddfmhpaaGreatQd
namespace Go.Proofs.YtpkhcehddfmhpaaGreat
open Go.RowKit Go.Shelf

/-- A change of a small block leaves messages alone. -/
theorem msgs_small {w w' : World} {s T : Nat} {cs : Array Value} {v : Value} {l : List Msg} (h : MsgsAt w v l) (hr : RowAt w s T cs) (hz : cs.size < 6) (hu : Upd s w w') : MsgsAt w' v l :=
  SeqAt.same h hu.size fun b off cap e h0 hc => by
    have q5 : w.cell? ⟨b, off + 5, none⟩ = some (.string (l[0]'h0).dat) := by
      rw [hc 5 (by omega)]
      simp [msgsC, List.getElem?_eq_getElem h0, msgA]
    have hlt : b < w.heap.size := by
      by_cases hlt : b < w.heap.size
      · exact hlt
      · unfold World.cell? at q5
        rw [show w.heap[(⟨b, off + 5, none⟩ : Addr).block]? = none from Array.getElem?_eq_none (by show w.heap.size ≤ b; omega)] at q5
        cases q5
    refine hu.block b hlt (fun e => ?_)
    cases e
    rw [cell_fact hr, Array.getElem?_eq_none (by omega)] at q5
    cases q5
theorem MsgsAt.drew {w : World} {v : Value} {l : List Msg} (h : MsgsAt w v l) : MsgsAt w.drew v l := h
theorem given_parts {x : Mgr} {y : Wre} {r : Rqs} (hg : givenE x y r = 0) : mgrE x = 0 ∧ wireE y = 0 ∧ chk (ofM x r) = 0 := by
  unfold givenE at hg
  split at hg
  · rename_i h1; exact absurd hg h1
  · rename_i h1
    split at hg
    · rename_i h2; exact absurd hg h2
    · rename_i h2
      split at hg
      · rename_i h3; exact absurd hg h3
      · rename_i h3
        exact ⟨Decidable.not_not.1 h1, Decidable.not_not.1 h2, Decidable.not_not.1 h3⟩
/-- What Send returns. -/
def SendUPost (p : Mgr × Wre × List Msg) (n : Int) (w : World) (e : Ending) (w' : World) : Prop :=
  ∃ da fa la ma, ∃ dn dc fn fc ln lc mn mc : Nat, e = .returned (.tuple #[mgrV p.1, .agg #[.slice da dn dc, .slice fa fn fc, .slice la ln lc], .slice ma mn mc, .int .i64 n]) ∧ WireT w' (.slice da dn dc) (.slice fa fn fc) (.slice la ln lc) p.2.1 ∧ MsgsAt w' (.slice ma mn mc) p.2.2 ∧ Below w.heap.size w w'

end Go.Proofs.YtpkhcehddfmhpaaGreat
