/-
  The walk of the law that numbers and thousandths belong to each other.
-/
import Derived.Test.YtndkpdiacabjgaaGreatDoorQ5
namespace Go.Proofs.YtndkpdiacabjgaaGreatDoor
open Go.RowKit

theorem named_len (n : Nat) (h : n ≤ 9999999) : (named n).length ≤ 8 := by
  have h1 := decDigits_len (n / 1000) (by omega)
  have h2 := trim_len (n % 1000) (Nat.mod_lt _ (by decide))
  unfold named
  rw [List.length_append]
  split
  · simp
    omega
  · rw [List.length_cons, h2]
    have : decs (n % 1000) ≤ 3 := by
      unfold decs
      repeat' split
      all_goals omega
    omega

theorem no_suffix {l : List UInt8} (b : UInt8) (h : l.getLast? = some b) (hb : b ≠ 46) : Lib.hasSuffix l [46] = false := by
  cases hh : Lib.hasSuffix l [46] with
  | false => rfl
  | true =>
    unfold Lib.hasSuffix at hh
    have hm : [46] <:+ l := by simpa using hh
    obtain ⟨t, ht⟩ := hm
    rw [← ht] at h
    simp at h
    exact absurd h.symm hb

theorem named_suffix (n : Nat) : Lib.hasSuffix (named n) [46] = false := by
  have key : ∀ l r : List UInt8, r.all isDig = true → r ≠ [] → Lib.hasSuffix (l ++ r) [46] = false := fun l r h1 h2 => by
    cases hr : r.getLast? with
    | none => exact absurd (List.getLast?_eq_none_iff.1 hr) h2
    | some b =>
      have hb : b ∈ r := List.mem_of_getLast? hr
      rw [List.all_eq_true] at h1
      have hd := isDig_le (h1 b hb)
      refine no_suffix b (by rw [List.getLast?_append, hr]; rfl) fun e => ?_
      rw [e] at hd
      simp at hd
  unfold named
  split
  · rw [List.append_nil]
    have := key [] _ (decDigits_all (n / 1000)) (decDigits_ne _)
    simpa using this
  · rename_i h
    have := key (Lib.decDigits (n / 1000) ++ [46]) _ (trim_digs (n % 1000) (Nat.mod_lt _ (by decide))) (trim_ne _ (Nat.mod_lt _ (by decide)) h)
    simpa using this

/-- A number of thousandths, as a law makes it of any 32 bits. -/
theorem kay (n : Int) : ∃ k : Nat, 1 + n % 9999999 = (k : Int) ∧ 1 ≤ k ∧ k ≤ 9999999 := ⟨(1 + n % 9999999).toNat, by omega, by omega, by omega⟩

end Go.Proofs.YtndkpdiacabjgaaGreatDoor
