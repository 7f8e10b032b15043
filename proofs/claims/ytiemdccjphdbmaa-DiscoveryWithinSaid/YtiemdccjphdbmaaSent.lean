/-
  Devices behind a message, all of them: the reference.
-/
import Derived.Test.YtiemdccjphdbmaaSame
import Derived.Test.YtiemdccjphdbmaaRcvdE
namespace Go.Proofs.Ytiemdccjphdbmaa
open Go.RowKit

/-- The error of a list of devices, when some identities were seen. -/
def dErr : List Int → List Dev → Int
  | _, [] => 0
  | seen, d :: l => if chkD d ≠ 0 then chkD d else if d.id ∈ seen then 7 else dErr (seen ++ [d.id]) l

/-- The devices behind a message. -/
def sentD (l : List Dev) (m : Msg) : List Dev := l.map fun d => (recvD d m).1
/-- The answers. -/
def sentA (l : List Dev) (m : Msg) : List Msg := l.filterMap fun d => if (recvD d m).2.2 then some (recvD d m).2.1 else none

theorem sentD_snoc (l : List Dev) (d : Dev) (m : Msg) : sentD (l ++ [d]) m = sentD l m ++ [(recvD d m).1] := by simp [sentD]
theorem sentA_snoc (l : List Dev) (d : Dev) (m : Msg) : sentA (l ++ [d]) m = sentA l m ++ if (recvD d m).2.2 then [(recvD d m).2.1] else [] := by
  unfold sentA
  rw [List.filterMap_append]
  split <;> simp_all
theorem sentD_length (l : List Dev) (m : Msg) : (sentD l m).length = l.length := by simp [sentD]
theorem sentA_length (l : List Dev) (m : Msg) : (sentA l m).length ≤ l.length := List.length_filterMap_le _ _

theorem dErr_all {seen : List Int} {l : List Dev} (h : dErr seen l = 0) : ∀ d ∈ l, chkD d = 0 := by
  induction l generalizing seen with
  | nil => intro d hd; cases hd
  | cons a l ih =>
    intro d hd
    rw [dErr] at h
    split at h
    · rename_i hne
      exact absurd h hne
    · rename_i h0
      split at h
      · cases h
      · rcases List.mem_cons.1 hd with rfl | hd
        · exact Decidable.not_not.1 h0
        · exact ih h d hd

theorem own_run {w w' : World} {base T S n : Nat} {v : Value} {xs : List Value} (h : w.ownsRow base T S v n xs) (hb : Below w.heap.size w w') : w'.ownsRow base T S v n xs := by
  refine ⟨h.1, ?_⟩
  rcases h.2 with hn | ⟨g, cap, cur, rfl, hbg, hg, rest⟩
  · exact .inl hn
  · exact .inr ⟨g, cap, cur, rfl, hbg, (hb.block g (lt_of_block hg)).trans hg, rest⟩

theorem own_two {w w' : World} {b1 T1 S1 n1 b2 T2 S2 n2 : Nat} {v1 v2 : Value} {x1 x2 : List Value} (h1 : w.ownsRow b1 T1 S1 v1 n1 x1) (h2 : w.ownsRow b2 T2 S2 v2 n2 x2) (hne : T1 ≠ T2) (hg : w.grownBy w' v1.ownBlock) : w'.ownsRow b2 T2 S2 v2 n2 x2 := by
  refine h2.kept hg ?_
  cases e2 : v2.ownBlock with
  | none => exact .inl rfl
  | some k2 =>
    refine .inr fun e => ?_
    rcases h1.2 with ⟨rfl, _⟩ | ⟨g1, c1, u1, rfl, _, hg1, _⟩
    · cases e
    · rcases h2.2 with ⟨rfl, _⟩ | ⟨g2, c2, u2, rfl, _, hg2, _⟩
      · cases e2
      · simp [Value.ownBlock] at e e2
        subst e2
        rw [← e, hg2] at hg1
        simp at hg1
        exact hne hg1.2.symm

theorem row_two {w w' : World} {b1 T1 S1 n1 k T : Nat} {v1 : Value} {x1 : List Value} {cs : Array Value} (h1 : w.ownsRow b1 T1 S1 v1 n1 x1) (h2 : RowAt w k T cs) (hne : T1 ≠ T) (hg : w.grownBy w' v1.ownBlock) : RowAt w' k T cs := by
  refine (hg.block k (lt_of_block h2) fun e => ?_).trans h2
  rcases h1.2 with ⟨rfl, _⟩ | ⟨g1, c1, u1, rfl, _, hg1, _⟩
  · cases e
  · simp [Value.ownBlock] at e
    subst e
    unfold RowAt at h2
    rw [h2] at hg1
    simp at hg1
    exact hne hg1.2.symm

theorem below_up {B C : Nat} {w w' : World} (h : Below C w w') (hB : B ≤ C) : Below B w w' := h.mono hB

end Go.Proofs.Ytiemdccjphdbmaa
